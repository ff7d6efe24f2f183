import Derived.Test.YtjlchnmpebdggaaDoorHdr2
import Derived.Test.YtjlchnmpebdggaaDoorHdr5
import Derived.Test.YtjlchnmpebdggaaDoorHdr7
import Derived.Test.YtjlchnmpebdggaaDoorHdr9
import Derived.Test.YtjlchnmpebdggaaDoorHdr13
import Derived.Test.YtjlchnmpebdggaaDoorHdr6
import Derived.Test.YtjlchnmpebdggaaDoorHdr3
import Derived.Test.YtjlchnmpebdggaaDoorHdr4
section
-- PRINTED by a driver of print.py
namespace Go.Proofs.YtjlchnmpebdggaaDoor.Mo
open Go.RowKit Go.Proofs.YtjlchnmpebdggaaDoorW.PrintWords Go.Proofs.YtjlchnmpebdggaaDoorW.PrintLast Go.Proofs.YtjlchnmpebdggaaDoorW.PrintMore
attribute [local go_sem] max2_int min2_int max_two min_two max_three min_three max_four min_four   -- for this text's walks alone
set_option linter.unusedVariables false
set_option linter.unusedSimpArgs false
attribute [local go_sem high] eqA23
def postbaglaw2_header.f (k : Nat) (a0 : ByteArray) (a1_0 : Int) (a1_1 : Int) (a1_2 : Int) (a1_3 : Int) (a1_4 : Int) (a1_5 : Int) (a1_6 : Int) : Option (Bool) := (moment_ReadHeader.f a0).bind fun bt356 => ((postbagref2_ReadHeader.f k a0).bind fun bt365 => ((moment_PrintHeader.f a1_0 a1_1 a1_2 a1_3 a1_4 a1_5 a1_6).bind fun bt374 => ((postbagref2_PrintHeader.f k a1_0 a1_1 a1_2 a1_3 a1_4 a1_5 a1_6).bind fun bt376 => (if (bt356.1 == bt365.1 && (bt356.2.1 == bt365.2.1 && (bt356.2.2.1 == bt365.2.2.1 && (bt356.2.2.2.1 == bt365.2.2.2.1 && (bt356.2.2.2.2.1 == bt365.2.2.2.2.1 && (bt356.2.2.2.2.2.1 == bt365.2.2.2.2.2.1 && (bt356.2.2.2.2.2.2.1 == bt365.2.2.2.2.2.2.1))))))) = true then ((postbaglaw2_num.f bt356.2.2.2.2.2.2.2).bind fun t378 => (if t378 = bt365.2.2.2.2.2.2.2 then (if bt374.1.toList = bt376.1.toList then ((postbaglaw2_num.f bt374.2).bind fun t379 => (some (t379 == bt376.2))) else (some false)) else (some false))) else (some false)))))
set_option maxHeartbeats 8000000 in
set_option maxRecDepth 100000 in
theorem postbaglaw2_header.calls (k : Nat) (a0 : ByteArray) (a1_0 : Int) (a1_1 : Int) (a1_2 : Int) (a1_3 : Int) (a1_4 : Int) (a1_5 : Int) (a1_6 : Int) (r : Bool) (w : World) (h : postbaglaw2_header.f k a0 a1_0 a1_1 a1_2 a1_3 a1_4 a1_5 a1_6 = some r) (hL_ : Laid w) :
  Calls Tryd.prog 18 #[.string a0, .agg #[.int .i64 a1_0, .int .i64 a1_1, .int .i64 a1_2, .int .i64 a1_3, .int .i64 a1_4, .int .i64 a1_5, .int .i64 a1_6]] w fun e w' => e = .returned (.bool r) ∧ Below w.heap.size w w' := by
 have HL_ := Aside0.mk hL_
 clear hL_
 have hu23 := Tryd.underlying23
 have HB := Aside0.mk (Below.refl w.heap.size w)
 have H : ((moment_ReadHeader.f a0).bind fun bt356 => ((postbagref2_ReadHeader.f k a0).bind fun bt365 => ((moment_PrintHeader.f a1_0 a1_1 a1_2 a1_3 a1_4 a1_5 a1_6).bind fun bt374 => ((postbagref2_PrintHeader.f k a1_0 a1_1 a1_2 a1_3 a1_4 a1_5 a1_6).bind fun bt376 => (if (bt356.1 == bt365.1 && (bt356.2.1 == bt365.2.1 && (bt356.2.2.1 == bt365.2.2.1 && (bt356.2.2.2.1 == bt365.2.2.2.1 && (bt356.2.2.2.2.1 == bt365.2.2.2.2.1 && (bt356.2.2.2.2.2.1 == bt365.2.2.2.2.2.1 && (bt356.2.2.2.2.2.2.1 == bt365.2.2.2.2.2.2.1))))))) = true then ((postbaglaw2_num.f bt356.2.2.2.2.2.2.2).bind fun t378 => (if t378 = bt365.2.2.2.2.2.2.2 then (if bt374.1.toList = bt376.1.toList then ((postbaglaw2_num.f bt374.2).bind fun t379 => (some (t379 == bt376.2))) else (some false)) else (some false))) else (some false)))))) = some r := h
 clear h
 replace H := Option.bind_eq_some_iff.mp H
 obtain ⟨⟨t356, t357, t358, t359, t360, t361, t362, t363⟩, A30, H⟩ := H
 replace H : ((postbagref2_ReadHeader.f k a0).bind fun bt365 => ((moment_PrintHeader.f a1_0 a1_1 a1_2 a1_3 a1_4 a1_5 a1_6).bind fun bt374 => ((postbagref2_PrintHeader.f k a1_0 a1_1 a1_2 a1_3 a1_4 a1_5 a1_6).bind fun bt376 => (if (t356 == bt365.1 && (t357 == bt365.2.1 && (t358 == bt365.2.2.1 && (t359 == bt365.2.2.2.1 && (t360 == bt365.2.2.2.2.1 && (t361 == bt365.2.2.2.2.2.1 && (t362 == bt365.2.2.2.2.2.2.1))))))) = true then ((postbaglaw2_num.f t363).bind fun t378 => (if t378 = bt365.2.2.2.2.2.2.2 then (if bt374.1.toList = bt376.1.toList then ((postbaglaw2_num.f bt374.2).bind fun t379 => (some (t379 == bt376.2))) else (some false)) else (some false))) else (some false))))) = some r := H
 have A3 := Aside0.mk A30
 clear A30
 replace H := Option.bind_eq_some_iff.mp H
 obtain ⟨⟨t365, t366, t367, t368, t369, t370, t371, t372⟩, A40, H⟩ := H
 replace H : ((moment_PrintHeader.f a1_0 a1_1 a1_2 a1_3 a1_4 a1_5 a1_6).bind fun bt374 => ((postbagref2_PrintHeader.f k a1_0 a1_1 a1_2 a1_3 a1_4 a1_5 a1_6).bind fun bt376 => (if (t356 == t365 && (t357 == t366 && (t358 == t367 && (t359 == t368 && (t360 == t369 && (t361 == t370 && (t362 == t371))))))) = true then ((postbaglaw2_num.f t363).bind fun t378 => (if t378 = t372 then (if bt374.1.toList = bt376.1.toList then ((postbaglaw2_num.f bt374.2).bind fun t379 => (some (t379 == bt376.2))) else (some false)) else (some false))) else (some false)))) = some r := H
 have A4 := Aside0.mk A40
 clear A40
 replace H := Option.bind_eq_some_iff.mp H
 obtain ⟨⟨t374, t375⟩, A50, H⟩ := H
 replace H : ((postbagref2_PrintHeader.f k a1_0 a1_1 a1_2 a1_3 a1_4 a1_5 a1_6).bind fun bt376 => (if (t356 == t365 && (t357 == t366 && (t358 == t367 && (t359 == t368 && (t360 == t369 && (t361 == t370 && (t362 == t371))))))) = true then ((postbaglaw2_num.f t363).bind fun t378 => (if t378 = t372 then (if t374.toList = bt376.1.toList then ((postbaglaw2_num.f t375).bind fun t379 => (some (t379 == bt376.2))) else (some false)) else (some false))) else (some false))) = some r := H
 have A5 := Aside0.mk A50
 clear A50
 replace H := Option.bind_eq_some_iff.mp H
 obtain ⟨⟨t376, t377⟩, A60, H⟩ := H
 replace H : (if (t356 == t365 && (t357 == t366 && (t358 == t367 && (t359 == t368 && (t360 == t369 && (t361 == t370 && (t362 == t371))))))) = true then ((postbaglaw2_num.f t363).bind fun t378 => (if t378 = t372 then (if t374.toList = t376.toList then ((postbaglaw2_num.f t375).bind fun t379 => (some (t379 == t377))) else (some false)) else (some false))) else (some false)) = some r := H
 have A6 := Aside0.mk A60
 clear A60
 refine (Classical.em ((t356 == t365 && (t357 == t366 && (t358 == t367 && (t359 == t368 && (t360 == t369 && (t361 == t370 && (t362 == t371))))))) = true)).elim (fun c7 => ?p7) (fun c7 => ?n7)
 case' p7 =>
  rw [if_pos c7] at H
  have c7b0 : (t356 == t365 && (t357 == t366 && (t358 == t367 && (t359 == t368 && (t360 == t369 && (t361 == t370 && (t362 == t371))))))) = true := c7
  (try (have c7b1 : decide (t356 = t365 && (t357 == t366 && (t358 == t367 && (t359 == t368 && (t360 == t369 && (t361 == t370 && (t362 == t371))))))) = true := by simpa using c7))
  (try (have c7b2 : (t356 == t365 && (t357 == t366 && (t358 == t367 && (t359 == t368 && (t360 == t369 && (t361 == t370 && (t362 == t371))))))) = true := by simpa using c7))
  clear c7
  replace H := Option.bind_eq_some_iff.mp H
  obtain ⟨t378, A80, H⟩ := H
  replace H : (if t378 = t372 then (if t374.toList = t376.toList then ((postbaglaw2_num.f t375).bind fun t379 => (some (t379 == t377))) else (some false)) else (some false)) = some r := H
  have A8 := Aside0.mk A80
  clear A80
  refine (Classical.em (t378 = t372)).elim (fun c9 => ?p9) (fun c9 => ?n9)
  case' p9 =>
   rw [if_pos c9] at H
   have c9b0 : (t378 == t372) = true := beq_iff_eq.mpr c9
   have c9b1 : (t378 != t372) = false := bne_eq_false_iff_eq.mpr c9
   clear c9
   refine (Classical.em (t374.toList = t376.toList)).elim (fun c10 => ?p10) (fun c10 => ?n10)
   case' p10 =>
    rw [if_pos c10] at H
    have c10b0 : (t374.toList == t376.toList) = true := beq_iff_eq.mpr c10
    have c10b1 : (t374.toList != t376.toList) = false := bne_eq_false_iff_eq.mpr c10
    clear c10
    replace H := Option.bind_eq_some_iff.mp H
    obtain ⟨t379, A110, H⟩ := H
    replace H : (some (t379 == t377)) = some r := H
    have A11 := Aside0.mk A110
    clear A110
    obtain rfl := Option.some.inj H
   case' n10 =>
    rw [if_neg c10] at H
    have c10b0 : (t374.toList == t376.toList) = false := beq_eq_false_iff_ne.mpr c10
    have c10b1 : (t374.toList != t376.toList) = true := bne_iff_ne.mpr c10
    obtain rfl := Option.some.inj H
  case' n9 =>
   rw [if_neg c9] at H
   have c9b0 : (t378 == t372) = false := beq_eq_false_iff_ne.mpr c9
   have c9b1 : (t378 != t372) = true := bne_iff_ne.mpr c9
   obtain rfl := Option.some.inj H
 case' n7 =>
  rw [if_neg c7] at H
  have c7b0 : (t356 == t365 && (t357 == t366 && (t358 == t367 && (t359 == t368 && (t360 == t369 && (t361 == t370 && (t362 == t371))))))) = false := by simpa using c7
  (try (have c7b1 : decide (t356 = t365 && (t357 == t366 && (t358 == t367 && (t359 == t368 && (t360 == t369 && (t361 == t370 && (t362 == t371))))))) = false := by simpa using c7))
  (try (have c7b2 : (t356 == t365 && (t357 == t366 && (t358 == t367 && (t359 == t368 && (t360 == t369 && (t361 == t370 && (t362 == t371))))))) = false := by simpa using c7))
  (try (have c7b3 : ¬ (t356 = t365 && (t357 == t366 && (t358 == t367 && (t359 == t368 && (t360 == t369 && (t361 == t370 && (t362 == t371))))))) := by simpa using c7))
  clear c7
  obtain rfl := Option.some.inj H
 all_goals
  go_enter Tryd.func18, Tryd.ntmps18
  go_wp2_with (first | ((with_reducible refine gate_dst (N := 3) rfl ?_); refine box_event ?hg (N := 3) ?hd (cs := #[.int .i64 a1_0, .int .i64 a1_1, .int .i64 a1_2, .int .i64 a1_3, .int .i64 a1_4, .int .i64 a1_5, .int .i64 a1_6]) (t := 23) ?hr ?_; (case hd => rfl); (case hg => rfl); (case hr => first | (go_simp; done) | (go_simp; rfl)); intro gb355 hg w12 hbox hb; have n0_ := Aside0.mk (below_step (by repeat (first | (with_reducible first | exact HB.out | apply below_alloc | apply pw_below_drewN | apply below_drew1 | refine below_set ?_ GW355.out | refine below_set ?_ GW364.out | refine below_set ?_ GW373.out) | exact HB.out)) hb); have n1_ := Aside0.mk (hbox); have n2_ := Aside0.mk ((by rw [hg]; exact (below_size (by repeat (first | (with_reducible first | exact HB.out | apply below_alloc | apply pw_below_drewN | apply below_drew1 | refine below_set ?_ GW355.out | refine below_set ?_ GW364.out | refine below_set ?_ GW373.out) | exact HB.out))) : w.heap.size ≤ gb355)); have n3_ := Aside0.mk ((by rw [hg]; exact (below_size (by repeat (first | (with_reducible first | exact HB.out | apply below_alloc | apply pw_below_drewN | apply below_drew1 | refine below_set ?_ GW355.out | refine below_set ?_ GW364.out | refine below_set ?_ GW373.out) | exact HB.out))) : w.heap.size ≤ gb355)); clear HB; have HB := n0_; have BK355 := n1_; have GW355 := n2_; have GE355 := n3_; clear n0_ n1_ n2_ n3_; clear hb hbox hg) | ((with_reducible refine gate_callee (f := 27) rfl ?_); refine goesL_ (some 15) rfl rfl Tryd.func27 (by kernel_rfl) rfl #[.string a0] rfl (by (try simp only [List.map_toArray, List.map_cons, List.map_nil]); first | done | rfl) ?_; (with_reducible refine (moment_ReadHeader.calls a0 t356 t357 t358 t359 t360 t361 t362 t363 _ A3.out (by first | exact laid_below HL_.out (by repeat (first | (with_reducible first | exact HB.out | apply below_alloc | apply pw_below_drewN | apply below_drew1 | refine below_set ?_ GW355.out | refine below_set ?_ GW364.out | refine below_set ?_ GW373.out) | exact HB.out)) | exact laid_drawn HL_.out (by repeat (first | exact Drawn0.refl _ | apply Drawn0.step)))).mono ?_); rintro e w13 ⟨rfl, hb⟩; refine ⟨_, rfl, ?_⟩; have n0_ := Aside0.mk (blk_below (g := gb355) (o := .cells #[.int .i64 a1_0, .int .i64 a1_1, .int .i64 a1_2, .int .i64 a1_3, .int .i64 a1_4, .int .i64 a1_5, .int .i64 a1_6] 23 (0, 0)) (by (with_reducible repeat first | refine blk_drewN ?_ _ | refine blk_alloc ?_ _); exact BK355.out) hb); have n1_ := Aside0.mk (below_step (by repeat (first | (with_reducible first | exact HB.out | apply below_alloc | apply pw_below_drewN | apply below_drew1 | refine below_set ?_ GE355.out) | exact HB.out)) hb); clear BK355; clear HB; have BK355 := n0_; have HB := n1_; clear n0_ n1_; (try clear hb); (try clear hb2); (try clear hk); (try clear hi)) | ((with_reducible refine gate_dst (N := 5) rfl ?_); refine box_event ?hg (N := 5) ?hd (cs := #[.int .i64 0, .int .i64 0, .int .i64 0, .int .i64 0, .int .i64 0, .int .i64 0, .int .i64 0]) (t := 23) ?hr ?_; (case hd => rfl); (case hg => rfl); (case hr => first | (go_simp; done) | (go_simp; rfl)); intro gb364 hg w14 hbox hb; have n0_ := Aside0.mk (blk_below (g := gb355) (o := .cells #[.int .i64 a1_0, .int .i64 a1_1, .int .i64 a1_2, .int .i64 a1_3, .int .i64 a1_4, .int .i64 a1_5, .int .i64 a1_6] 23 (0, 0)) (by (with_reducible repeat first | refine blk_drewN ?_ _ | refine blk_alloc ?_ _); exact BK355.out) hb); have n1_ := Aside0.mk (below_step (by repeat (first | (with_reducible first | exact HB.out | apply below_alloc | apply pw_below_drewN | apply below_drew1 | refine below_set ?_ GE355.out) | exact HB.out)) hb); have n2_ := Aside0.mk (hbox); have n3_ := Aside0.mk ((by rw [hg]; exact (below_size (by repeat (first | (with_reducible first | exact HB.out | apply below_alloc | apply pw_below_drewN | apply below_drew1 | refine below_set ?_ GE355.out) | exact HB.out))) : w.heap.size ≤ gb364)); have n4_ := Aside0.mk ((by rw [hg]; exact (below_size (by repeat (first | (with_reducible first | exact HB.out | apply below_alloc | apply pw_below_drewN | apply below_drew1 | refine below_set ?_ GE355.out) | exact HB.out))) : w.heap.size ≤ gb364)); have n5_ := Aside0.mk ((by rw [hg]; exact Nat.ne_of_lt (blk_lt (g := gb355) (o := .cells #[.int .i64 a1_0, .int .i64 a1_1, .int .i64 a1_2, .int .i64 a1_3, .int .i64 a1_4, .int .i64 a1_5, .int .i64 a1_6] 23 (0, 0)) (by (with_reducible repeat first | refine blk_drewN ?_ _ | refine blk_alloc ?_ _); exact BK355.out)) : gb355 ≠ gb364)); have n6_ := Aside0.mk ((by rw [hg]; exact Nat.ne_of_gt (blk_lt (g := gb355) (o := .cells #[.int .i64 a1_0, .int .i64 a1_1, .int .i64 a1_2, .int .i64 a1_3, .int .i64 a1_4, .int .i64 a1_5, .int .i64 a1_6] 23 (0, 0)) (by (with_reducible repeat first | refine blk_drewN ?_ _ | refine blk_alloc ?_ _); exact BK355.out)) : gb364 ≠ gb355)); clear BK355; clear HB; have BK355 := n0_; have HB := n1_; have BK364 := n2_; have GW364 := n3_; have GE364 := n4_; have NB355_364 := n5_; have NB364_355 := n6_; clear n0_ n1_ n2_ n3_ n4_ n5_ n6_; clear hb hbox hg; have hnb15 := NB364_355.out; have hnc15 := NB355_364.out; have hcz16_0 : w14.cell? ⟨gb364, 0, none⟩ = some (.int .i64 0) := (blk_cell BK364.out 0).trans rfl; have hcz16_1 : w14.cell? ⟨gb364, 1, none⟩ = some (.int .i64 0) := (blk_cell BK364.out 1).trans rfl; have hcz16_2 : w14.cell? ⟨gb364, 2, none⟩ = some (.int .i64 0) := (blk_cell BK364.out 2).trans rfl; have hcz16_3 : w14.cell? ⟨gb364, 3, none⟩ = some (.int .i64 0) := (blk_cell BK364.out 3).trans rfl; have hcz16_4 : w14.cell? ⟨gb364, 4, none⟩ = some (.int .i64 0) := (blk_cell BK364.out 4).trans rfl; have hcz16_5 : w14.cell? ⟨gb364, 5, none⟩ = some (.int .i64 0) := (blk_cell BK364.out 5).trans rfl; have hcz16_6 : w14.cell? ⟨gb364, 6, none⟩ = some (.int .i64 0) := (blk_cell BK364.out 6).trans rfl; have hfz16_0 := blk_frozen BK364.out 0; have hfz16_1 := blk_frozen BK364.out 1; have hfz16_2 := blk_frozen BK364.out 2; have hfz16_3 := blk_frozen BK364.out 3; have hfz16_4 := blk_frozen BK364.out 4; have hfz16_5 := blk_frozen BK364.out 5; have hfz16_6 := blk_frozen BK364.out 6) | ((with_reducible refine gate_callee (f := 44) rfl ?_); refine goesL_ (some 20) rfl rfl Tryd.func44 (by kernel_rfl) rfl #[.string a0] rfl (by (try simp only [List.map_toArray, List.map_cons, List.map_nil]); first | done | rfl) ?_; (with_reducible refine (postbagref2_ReadHeader.calls k a0 t365 t366 t367 t368 t369 t370 t371 t372 _ A4.out).mono ?_); rintro e w17 ⟨rfl, hb⟩; refine ⟨_, rfl, ?_⟩; have n0_ := Aside0.mk (blk_below (g := gb355) (o := .cells #[.int .i64 a1_0, .int .i64 a1_1, .int .i64 a1_2, .int .i64 a1_3, .int .i64 a1_4, .int .i64 a1_5, .int .i64 a1_6] 23 (0, 0)) (by (with_reducible repeat first | refine blk_drewN ?_ _ | refine blk_alloc ?_ _); refine blk_far ?_ NB355_364.out _; (with_reducible repeat first | refine blk_drewN ?_ _ | refine blk_alloc ?_ _); refine blk_far ?_ NB355_364.out _; (with_reducible repeat first | refine blk_drewN ?_ _ | refine blk_alloc ?_ _); refine blk_far ?_ NB355_364.out _; (with_reducible repeat first | refine blk_drewN ?_ _ | refine blk_alloc ?_ _); refine blk_far ?_ NB355_364.out _; (with_reducible repeat first | refine blk_drewN ?_ _ | refine blk_alloc ?_ _); refine blk_far ?_ NB355_364.out _; (with_reducible repeat first | refine blk_drewN ?_ _ | refine blk_alloc ?_ _); refine blk_far ?_ NB355_364.out _; (with_reducible repeat first | refine blk_drewN ?_ _ | refine blk_alloc ?_ _); refine blk_far ?_ NB355_364.out _; (with_reducible repeat first | refine blk_drewN ?_ _ | refine blk_alloc ?_ _); exact BK355.out) hb); have n1_ := Aside0.mk (blk_below (g := gb364) (o := .cells #[.int .i64 t356, .int .i64 t357, .int .i64 t358, .int .i64 t359, .int .i64 t360, .int .i64 t361, .int .i64 t362] 23 (0, 0)) (by (with_reducible repeat first | refine blk_drewN ?_ _ | refine blk_alloc ?_ _); refine blk_put (cs := #[.int .i64 t356, .int .i64 t357, .int .i64 t358, .int .i64 t359, .int .i64 t360, .int .i64 t361, .int .i64 0]) ?_ 6 _ rfl; (with_reducible repeat first | refine blk_drewN ?_ _ | refine blk_alloc ?_ _); refine blk_put (cs := #[.int .i64 t356, .int .i64 t357, .int .i64 t358, .int .i64 t359, .int .i64 t360, .int .i64 0, .int .i64 0]) ?_ 5 _ rfl; (with_reducible repeat first | refine blk_drewN ?_ _ | refine blk_alloc ?_ _); refine blk_put (cs := #[.int .i64 t356, .int .i64 t357, .int .i64 t358, .int .i64 t359, .int .i64 0, .int .i64 0, .int .i64 0]) ?_ 4 _ rfl; (with_reducible repeat first | refine blk_drewN ?_ _ | refine blk_alloc ?_ _); refine blk_put (cs := #[.int .i64 t356, .int .i64 t357, .int .i64 t358, .int .i64 0, .int .i64 0, .int .i64 0, .int .i64 0]) ?_ 3 _ rfl; (with_reducible repeat first | refine blk_drewN ?_ _ | refine blk_alloc ?_ _); refine blk_put (cs := #[.int .i64 t356, .int .i64 t357, .int .i64 0, .int .i64 0, .int .i64 0, .int .i64 0, .int .i64 0]) ?_ 2 _ rfl; (with_reducible repeat first | refine blk_drewN ?_ _ | refine blk_alloc ?_ _); refine blk_put (cs := #[.int .i64 t356, .int .i64 0, .int .i64 0, .int .i64 0, .int .i64 0, .int .i64 0, .int .i64 0]) ?_ 1 _ rfl; (with_reducible repeat first | refine blk_drewN ?_ _ | refine blk_alloc ?_ _); refine blk_put (cs := #[.int .i64 0, .int .i64 0, .int .i64 0, .int .i64 0, .int .i64 0, .int .i64 0, .int .i64 0]) ?_ 0 _ rfl; (with_reducible repeat first | refine blk_drewN ?_ _ | refine blk_alloc ?_ _); exact BK364.out) hb); have n2_ := Aside0.mk (below_step (by repeat (first | (with_reducible first | exact HB.out | apply below_alloc | apply pw_below_drewN | apply below_drew1 | refine below_set ?_ GE355.out | refine below_set ?_ GE364.out) | exact HB.out)) hb); clear BK355; clear BK364; clear HB; have BK355 := n0_; have BK364 := n1_; have HB := n2_; clear n0_ n1_ n2_; (try clear hb); (try clear hb2); (try clear hk); (try clear hi)) | ((with_reducible refine gate_dst (N := 7) rfl ?_); refine box_event ?hg (N := 7) ?hd (cs := #[.int .i64 0, .int .i64 0, .int .i64 0, .int .i64 0, .int .i64 0, .int .i64 0, .int .i64 0]) (t := 23) ?hr ?_; (case hd => rfl); (case hg => rfl); (case hr => first | (go_simp; done) | (go_simp; rfl)); intro gb373 hg w18 hbox hb; have n0_ := Aside0.mk (blk_below (g := gb355) (o := .cells #[.int .i64 a1_0, .int .i64 a1_1, .int .i64 a1_2, .int .i64 a1_3, .int .i64 a1_4, .int .i64 a1_5, .int .i64 a1_6] 23 (0, 0)) (by (with_reducible repeat first | refine blk_drewN ?_ _ | refine blk_alloc ?_ _); exact BK355.out) hb); have n1_ := Aside0.mk (blk_below (g := gb364) (o := .cells #[.int .i64 t356, .int .i64 t357, .int .i64 t358, .int .i64 t359, .int .i64 t360, .int .i64 t361, .int .i64 t362] 23 (0, 0)) (by (with_reducible repeat first | refine blk_drewN ?_ _ | refine blk_alloc ?_ _); exact BK364.out) hb); have n2_ := Aside0.mk (below_step (by repeat (first | (with_reducible first | exact HB.out | apply below_alloc | apply pw_below_drewN | apply below_drew1 | refine below_set ?_ GE355.out | refine below_set ?_ GE364.out) | exact HB.out)) hb); have n3_ := Aside0.mk (hbox); have n4_ := Aside0.mk ((by rw [hg]; exact (below_size (by repeat (first | (with_reducible first | exact HB.out | apply below_alloc | apply pw_below_drewN | apply below_drew1 | refine below_set ?_ GE355.out | refine below_set ?_ GE364.out) | exact HB.out))) : w.heap.size ≤ gb373)); have n5_ := Aside0.mk ((by rw [hg]; exact (below_size (by repeat (first | (with_reducible first | exact HB.out | apply below_alloc | apply pw_below_drewN | apply below_drew1 | refine below_set ?_ GE355.out | refine below_set ?_ GE364.out) | exact HB.out))) : w.heap.size ≤ gb373)); have n6_ := Aside0.mk ((by rw [hg]; exact Nat.ne_of_lt (blk_lt (g := gb355) (o := .cells #[.int .i64 a1_0, .int .i64 a1_1, .int .i64 a1_2, .int .i64 a1_3, .int .i64 a1_4, .int .i64 a1_5, .int .i64 a1_6] 23 (0, 0)) (by (with_reducible repeat first | refine blk_drewN ?_ _ | refine blk_alloc ?_ _); exact BK355.out)) : gb355 ≠ gb373)); have n7_ := Aside0.mk ((by rw [hg]; exact Nat.ne_of_gt (blk_lt (g := gb355) (o := .cells #[.int .i64 a1_0, .int .i64 a1_1, .int .i64 a1_2, .int .i64 a1_3, .int .i64 a1_4, .int .i64 a1_5, .int .i64 a1_6] 23 (0, 0)) (by (with_reducible repeat first | refine blk_drewN ?_ _ | refine blk_alloc ?_ _); exact BK355.out)) : gb373 ≠ gb355)); have n8_ := Aside0.mk ((by rw [hg]; exact Nat.ne_of_lt (blk_lt (g := gb364) (o := .cells #[.int .i64 t356, .int .i64 t357, .int .i64 t358, .int .i64 t359, .int .i64 t360, .int .i64 t361, .int .i64 t362] 23 (0, 0)) (by (with_reducible repeat first | refine blk_drewN ?_ _ | refine blk_alloc ?_ _); exact BK364.out)) : gb364 ≠ gb373)); have n9_ := Aside0.mk ((by rw [hg]; exact Nat.ne_of_gt (blk_lt (g := gb364) (o := .cells #[.int .i64 t356, .int .i64 t357, .int .i64 t358, .int .i64 t359, .int .i64 t360, .int .i64 t361, .int .i64 t362] 23 (0, 0)) (by (with_reducible repeat first | refine blk_drewN ?_ _ | refine blk_alloc ?_ _); exact BK364.out)) : gb373 ≠ gb364)); clear BK355; clear BK364; clear HB; have BK355 := n0_; have BK364 := n1_; have HB := n2_; have BK373 := n3_; have GW373 := n4_; have GE373 := n5_; have NB355_373 := n6_; have NB373_355 := n7_; have NB364_373 := n8_; have NB373_364 := n9_; clear n0_ n1_ n2_ n3_ n4_ n5_ n6_ n7_ n8_ n9_; clear hb hbox hg; have hnb19 := NB373_355.out; have hnc19 := NB355_373.out; have hnb20 := NB373_364.out; have hnc20 := NB364_373.out; have hcz21_0 : w18.cell? ⟨gb373, 0, none⟩ = some (.int .i64 0) := (blk_cell BK373.out 0).trans rfl; have hcz21_1 : w18.cell? ⟨gb373, 1, none⟩ = some (.int .i64 0) := (blk_cell BK373.out 1).trans rfl; have hcz21_2 : w18.cell? ⟨gb373, 2, none⟩ = some (.int .i64 0) := (blk_cell BK373.out 2).trans rfl; have hcz21_3 : w18.cell? ⟨gb373, 3, none⟩ = some (.int .i64 0) := (blk_cell BK373.out 3).trans rfl; have hcz21_4 : w18.cell? ⟨gb373, 4, none⟩ = some (.int .i64 0) := (blk_cell BK373.out 4).trans rfl; have hcz21_5 : w18.cell? ⟨gb373, 5, none⟩ = some (.int .i64 0) := (blk_cell BK373.out 5).trans rfl; have hcz21_6 : w18.cell? ⟨gb373, 6, none⟩ = some (.int .i64 0) := (blk_cell BK373.out 6).trans rfl; have hfz21_0 := blk_frozen BK373.out 0; have hfz21_1 := blk_frozen BK373.out 1; have hfz21_2 := blk_frozen BK373.out 2; have hfz21_3 := blk_frozen BK373.out 3; have hfz21_4 := blk_frozen BK373.out 4; have hfz21_5 := blk_frozen BK373.out 5; have hfz21_6 := blk_frozen BK373.out 6; have hcz22_0 : w18.cell? ⟨gb355, 0, none⟩ = some (.int .i64 a1_0) := (blk_cell BK355.out 0).trans rfl; have hcz22_1 : w18.cell? ⟨gb355, 1, none⟩ = some (.int .i64 a1_1) := (blk_cell BK355.out 1).trans rfl; have hcz22_2 : w18.cell? ⟨gb355, 2, none⟩ = some (.int .i64 a1_2) := (blk_cell BK355.out 2).trans rfl; have hcz22_3 : w18.cell? ⟨gb355, 3, none⟩ = some (.int .i64 a1_3) := (blk_cell BK355.out 3).trans rfl; have hcz22_4 : w18.cell? ⟨gb355, 4, none⟩ = some (.int .i64 a1_4) := (blk_cell BK355.out 4).trans rfl; have hcz22_5 : w18.cell? ⟨gb355, 5, none⟩ = some (.int .i64 a1_5) := (blk_cell BK355.out 5).trans rfl; have hcz22_6 : w18.cell? ⟨gb355, 6, none⟩ = some (.int .i64 a1_6) := (blk_cell BK355.out 6).trans rfl; have hfz22_0 := blk_frozen BK355.out 0; have hfz22_1 := blk_frozen BK355.out 1; have hfz22_2 := blk_frozen BK355.out 2; have hfz22_3 := blk_frozen BK355.out 3; have hfz22_4 := blk_frozen BK355.out 4; have hfz22_5 := blk_frozen BK355.out 5; have hfz22_6 := blk_frozen BK355.out 6) | ((with_reducible refine gate_callee (f := 30) rfl ?_); refine goesL_ (some 25) rfl rfl Tryd.func30 (by kernel_rfl) rfl #[.agg #[.int .i64 a1_0, .int .i64 a1_1, .int .i64 a1_2, .int .i64 a1_3, .int .i64 a1_4, .int .i64 a1_5, .int .i64 a1_6]] rfl (by (try simp only [List.map_toArray, List.map_cons, List.map_nil]); first | done | rfl) ?_; (with_reducible refine (moment_PrintHeader.calls a1_0 a1_1 a1_2 a1_3 a1_4 a1_5 a1_6 t374 t375 _ A5.out (by first | exact laid_below HL_.out (by repeat (first | (with_reducible first | exact HB.out | apply below_alloc | apply pw_below_drewN | apply below_drew1 | refine below_set ?_ GW355.out | refine below_set ?_ GW364.out | refine below_set ?_ GW373.out) | exact HB.out)) | exact laid_drawn HL_.out (by repeat (first | exact Drawn0.refl _ | apply Drawn0.step)))).mono ?_); rintro e w23 ⟨rfl, hb⟩; refine ⟨_, rfl, ?_⟩; have n0_ := Aside0.mk (blk_below (g := gb355) (o := .cells #[.int .i64 a1_0, .int .i64 a1_1, .int .i64 a1_2, .int .i64 a1_3, .int .i64 a1_4, .int .i64 a1_5, .int .i64 a1_6] 23 (0, 0)) (by (with_reducible repeat first | refine blk_drewN ?_ _ | refine blk_alloc ?_ _); refine blk_far ?_ NB355_373.out _; (with_reducible repeat first | refine blk_drewN ?_ _ | refine blk_alloc ?_ _); refine blk_far ?_ NB355_373.out _; (with_reducible repeat first | refine blk_drewN ?_ _ | refine blk_alloc ?_ _); refine blk_far ?_ NB355_373.out _; (with_reducible repeat first | refine blk_drewN ?_ _ | refine blk_alloc ?_ _); refine blk_far ?_ NB355_373.out _; (with_reducible repeat first | refine blk_drewN ?_ _ | refine blk_alloc ?_ _); refine blk_far ?_ NB355_373.out _; (with_reducible repeat first | refine blk_drewN ?_ _ | refine blk_alloc ?_ _); refine blk_far ?_ NB355_373.out _; (with_reducible repeat first | refine blk_drewN ?_ _ | refine blk_alloc ?_ _); refine blk_far ?_ NB355_373.out _; (with_reducible repeat first | refine blk_drewN ?_ _ | refine blk_alloc ?_ _); exact BK355.out) hb); have n1_ := Aside0.mk (blk_below (g := gb364) (o := .cells #[.int .i64 t356, .int .i64 t357, .int .i64 t358, .int .i64 t359, .int .i64 t360, .int .i64 t361, .int .i64 t362] 23 (0, 0)) (by (with_reducible repeat first | refine blk_drewN ?_ _ | refine blk_alloc ?_ _); refine blk_far ?_ NB364_373.out _; (with_reducible repeat first | refine blk_drewN ?_ _ | refine blk_alloc ?_ _); refine blk_far ?_ NB364_373.out _; (with_reducible repeat first | refine blk_drewN ?_ _ | refine blk_alloc ?_ _); refine blk_far ?_ NB364_373.out _; (with_reducible repeat first | refine blk_drewN ?_ _ | refine blk_alloc ?_ _); refine blk_far ?_ NB364_373.out _; (with_reducible repeat first | refine blk_drewN ?_ _ | refine blk_alloc ?_ _); refine blk_far ?_ NB364_373.out _; (with_reducible repeat first | refine blk_drewN ?_ _ | refine blk_alloc ?_ _); refine blk_far ?_ NB364_373.out _; (with_reducible repeat first | refine blk_drewN ?_ _ | refine blk_alloc ?_ _); refine blk_far ?_ NB364_373.out _; (with_reducible repeat first | refine blk_drewN ?_ _ | refine blk_alloc ?_ _); exact BK364.out) hb); have n2_ := Aside0.mk (blk_below (g := gb373) (o := .cells #[.int .i64 t365, .int .i64 t366, .int .i64 t367, .int .i64 t368, .int .i64 t369, .int .i64 t370, .int .i64 t371] 23 (0, 0)) (by (with_reducible repeat first | refine blk_drewN ?_ _ | refine blk_alloc ?_ _); refine blk_put (cs := #[.int .i64 t365, .int .i64 t366, .int .i64 t367, .int .i64 t368, .int .i64 t369, .int .i64 t370, .int .i64 0]) ?_ 6 _ rfl; (with_reducible repeat first | refine blk_drewN ?_ _ | refine blk_alloc ?_ _); refine blk_put (cs := #[.int .i64 t365, .int .i64 t366, .int .i64 t367, .int .i64 t368, .int .i64 t369, .int .i64 0, .int .i64 0]) ?_ 5 _ rfl; (with_reducible repeat first | refine blk_drewN ?_ _ | refine blk_alloc ?_ _); refine blk_put (cs := #[.int .i64 t365, .int .i64 t366, .int .i64 t367, .int .i64 t368, .int .i64 0, .int .i64 0, .int .i64 0]) ?_ 4 _ rfl; (with_reducible repeat first | refine blk_drewN ?_ _ | refine blk_alloc ?_ _); refine blk_put (cs := #[.int .i64 t365, .int .i64 t366, .int .i64 t367, .int .i64 0, .int .i64 0, .int .i64 0, .int .i64 0]) ?_ 3 _ rfl; (with_reducible repeat first | refine blk_drewN ?_ _ | refine blk_alloc ?_ _); refine blk_put (cs := #[.int .i64 t365, .int .i64 t366, .int .i64 0, .int .i64 0, .int .i64 0, .int .i64 0, .int .i64 0]) ?_ 2 _ rfl; (with_reducible repeat first | refine blk_drewN ?_ _ | refine blk_alloc ?_ _); refine blk_put (cs := #[.int .i64 t365, .int .i64 0, .int .i64 0, .int .i64 0, .int .i64 0, .int .i64 0, .int .i64 0]) ?_ 1 _ rfl; (with_reducible repeat first | refine blk_drewN ?_ _ | refine blk_alloc ?_ _); refine blk_put (cs := #[.int .i64 0, .int .i64 0, .int .i64 0, .int .i64 0, .int .i64 0, .int .i64 0, .int .i64 0]) ?_ 0 _ rfl; (with_reducible repeat first | refine blk_drewN ?_ _ | refine blk_alloc ?_ _); exact BK373.out) hb); have n3_ := Aside0.mk (below_step (by repeat (first | (with_reducible first | exact HB.out | apply below_alloc | apply pw_below_drewN | apply below_drew1 | refine below_set ?_ GE355.out | refine below_set ?_ GE364.out | refine below_set ?_ GE373.out) | exact HB.out)) hb); clear BK355; clear BK364; clear BK373; clear HB; have BK355 := n0_; have BK364 := n1_; have BK373 := n2_; have HB := n3_; clear n0_ n1_ n2_ n3_; (try clear hb); (try clear hb2); (try clear hk); (try clear hi); have hcz24_0 : w23.cell? ⟨gb355, 0, none⟩ = some (.int .i64 a1_0) := (blk_cell BK355.out 0).trans rfl; have hcz24_1 : w23.cell? ⟨gb355, 1, none⟩ = some (.int .i64 a1_1) := (blk_cell BK355.out 1).trans rfl; have hcz24_2 : w23.cell? ⟨gb355, 2, none⟩ = some (.int .i64 a1_2) := (blk_cell BK355.out 2).trans rfl; have hcz24_3 : w23.cell? ⟨gb355, 3, none⟩ = some (.int .i64 a1_3) := (blk_cell BK355.out 3).trans rfl; have hcz24_4 : w23.cell? ⟨gb355, 4, none⟩ = some (.int .i64 a1_4) := (blk_cell BK355.out 4).trans rfl; have hcz24_5 : w23.cell? ⟨gb355, 5, none⟩ = some (.int .i64 a1_5) := (blk_cell BK355.out 5).trans rfl; have hcz24_6 : w23.cell? ⟨gb355, 6, none⟩ = some (.int .i64 a1_6) := (blk_cell BK355.out 6).trans rfl; have hfz24_0 := blk_frozen BK355.out 0; have hfz24_1 := blk_frozen BK355.out 1; have hfz24_2 := blk_frozen BK355.out 2; have hfz24_3 := blk_frozen BK355.out 3; have hfz24_4 := blk_frozen BK355.out 4; have hfz24_5 := blk_frozen BK355.out 5; have hfz24_6 := blk_frozen BK355.out 6) | ((with_reducible refine gate_callee (f := 45) rfl ?_); refine goesL_ (some 30) rfl rfl Tryd.func45 (by kernel_rfl) rfl #[.agg #[.int .i64 a1_0, .int .i64 a1_1, .int .i64 a1_2, .int .i64 a1_3, .int .i64 a1_4, .int .i64 a1_5, .int .i64 a1_6]] rfl (by (try simp only [List.map_toArray, List.map_cons, List.map_nil]); first | done | rfl) ?_; (with_reducible refine (postbagref2_PrintHeader.calls k a1_0 a1_1 a1_2 a1_3 a1_4 a1_5 a1_6 t376 t377 _ A6.out).mono ?_); rintro e w25 ⟨rfl, hb⟩; refine ⟨_, rfl, ?_⟩; have n0_ := Aside0.mk (blk_below (g := gb355) (o := .cells #[.int .i64 a1_0, .int .i64 a1_1, .int .i64 a1_2, .int .i64 a1_3, .int .i64 a1_4, .int .i64 a1_5, .int .i64 a1_6] 23 (0, 0)) (by (with_reducible repeat first | refine blk_drewN ?_ _ | refine blk_alloc ?_ _); exact BK355.out) hb); have n1_ := Aside0.mk (blk_below (g := gb364) (o := .cells #[.int .i64 t356, .int .i64 t357, .int .i64 t358, .int .i64 t359, .int .i64 t360, .int .i64 t361, .int .i64 t362] 23 (0, 0)) (by (with_reducible repeat first | refine blk_drewN ?_ _ | refine blk_alloc ?_ _); exact BK364.out) hb); have n2_ := Aside0.mk (blk_below (g := gb373) (o := .cells #[.int .i64 t365, .int .i64 t366, .int .i64 t367, .int .i64 t368, .int .i64 t369, .int .i64 t370, .int .i64 t371] 23 (0, 0)) (by (with_reducible repeat first | refine blk_drewN ?_ _ | refine blk_alloc ?_ _); exact BK373.out) hb); have n3_ := Aside0.mk (below_step (by repeat (first | (with_reducible first | exact HB.out | apply below_alloc | apply pw_below_drewN | apply below_drew1 | refine below_set ?_ GE355.out | refine below_set ?_ GE364.out | refine below_set ?_ GE373.out) | exact HB.out)) hb); clear BK355; clear BK364; clear BK373; clear HB; have BK355 := n0_; have BK364 := n1_; have BK373 := n2_; have HB := n3_; clear n0_ n1_ n2_ n3_; (try clear hb); (try clear hb2); (try clear hk); (try clear hi); have hcz26_0 : w25.cell? ⟨gb364, 0, none⟩ = some (.int .i64 t356) := (blk_cell BK364.out 0).trans rfl; have hcz26_1 : w25.cell? ⟨gb364, 1, none⟩ = some (.int .i64 t357) := (blk_cell BK364.out 1).trans rfl; have hcz26_2 : w25.cell? ⟨gb364, 2, none⟩ = some (.int .i64 t358) := (blk_cell BK364.out 2).trans rfl; have hcz26_3 : w25.cell? ⟨gb364, 3, none⟩ = some (.int .i64 t359) := (blk_cell BK364.out 3).trans rfl; have hcz26_4 : w25.cell? ⟨gb364, 4, none⟩ = some (.int .i64 t360) := (blk_cell BK364.out 4).trans rfl; have hcz26_5 : w25.cell? ⟨gb364, 5, none⟩ = some (.int .i64 t361) := (blk_cell BK364.out 5).trans rfl; have hcz26_6 : w25.cell? ⟨gb364, 6, none⟩ = some (.int .i64 t362) := (blk_cell BK364.out 6).trans rfl; have hfz26_0 := blk_frozen BK364.out 0; have hfz26_1 := blk_frozen BK364.out 1; have hfz26_2 := blk_frozen BK364.out 2; have hfz26_3 := blk_frozen BK364.out 3; have hfz26_4 := blk_frozen BK364.out 4; have hfz26_5 := blk_frozen BK364.out 5; have hfz26_6 := blk_frozen BK364.out 6; have hcz27_0 : w25.cell? ⟨gb373, 0, none⟩ = some (.int .i64 t365) := (blk_cell BK373.out 0).trans rfl; have hcz27_1 : w25.cell? ⟨gb373, 1, none⟩ = some (.int .i64 t366) := (blk_cell BK373.out 1).trans rfl; have hcz27_2 : w25.cell? ⟨gb373, 2, none⟩ = some (.int .i64 t367) := (blk_cell BK373.out 2).trans rfl; have hcz27_3 : w25.cell? ⟨gb373, 3, none⟩ = some (.int .i64 t368) := (blk_cell BK373.out 3).trans rfl; have hcz27_4 : w25.cell? ⟨gb373, 4, none⟩ = some (.int .i64 t369) := (blk_cell BK373.out 4).trans rfl; have hcz27_5 : w25.cell? ⟨gb373, 5, none⟩ = some (.int .i64 t370) := (blk_cell BK373.out 5).trans rfl; have hcz27_6 : w25.cell? ⟨gb373, 6, none⟩ = some (.int .i64 t371) := (blk_cell BK373.out 6).trans rfl; have hfz27_0 := blk_frozen BK373.out 0; have hfz27_1 := blk_frozen BK373.out 1; have hfz27_2 := blk_frozen BK373.out 2; have hfz27_3 := blk_frozen BK373.out 3; have hfz27_4 := blk_frozen BK373.out 4; have hfz27_5 := blk_frozen BK373.out 5; have hfz27_6 := blk_frozen BK373.out 6) | (go_at_call 39; (with_reducible refine (postbaglaw2_num.calls t363 t378 _ A8.out).mono ?_); rintro e w' ⟨rfl, ⟨nd, rfl⟩⟩) | (go_at_call 39; (with_reducible refine (postbaglaw2_num.calls t375 t379 _ A11.out).mono ?_); rintro e w' ⟨rfl, ⟨nd, rfl⟩⟩))
  go_ret
  exact ⟨by first | rfl | (simp [errW_none, errW_some] <;> rfl) | (simp [*, errW_none, errW_some] <;> rfl), by repeat (first | (with_reducible first | exact HB.out | apply below_alloc | apply pw_below_drewN | apply below_drew1 | refine below_set ?_ GE355.out | refine below_set ?_ GE364.out | refine below_set ?_ GE373.out) | exact HB.out)⟩
end Go.Proofs.YtjlchnmpebdggaaDoor.Mo
end
section
namespace Go.Proofs.YtjlchnmpebdggaaDoor.Mo
open Go.RowKit Go.Proofs.YtjlchnmpebdggaaDoorW.PrintWords
set_option linter.unusedVariables false
def formI (s : ByteArray) : Prop := s.size = 26 ∧ bt s 11 = 32 ∧ bt s 14 = 58 ∧ bt s 17 = 58 ∧ bt s 20 = 32
instance (s : ByteArray) : Decidable (formI s) := by unfold formI; exact inferInstance
def dayT (s : ByteArray) : ByteArray := if bt (s.extract 0 2) 0 = 32 then (s.extract 0 2).extract 1 2 else s.extract 0 2
theorem pair_eta {α β : Type} (p : α × β) : p = (p.1, p.2) := rfl
theorem quad_eta {α β γ δ : Type} (p : α × β × γ × δ) : p = (p.1, p.2.1, p.2.2.1, p.2.2.2) := rfl
def riD (s : ByteArray) : Int × Bool := digitsP (dayT s)
def riY (s : ByteArray) : Int × Int × Int × Bool := dayP (riD s).1 (s.extract 2 11)
def riH (s : ByteArray) : Int × Bool := belowP (s.extract 12 14) 23
def riM (s : ByteArray) : Int × Bool := belowP (s.extract 15 17) 59
def riS (s : ByteArray) : Int × Bool := belowP (s.extract 18 20) 59
def riZ (s : ByteArray) : Int × Bool := zoneT (s.extract 21 26)
def riOk (s : ByteArray) : Bool := (riD s).2 && ((riY s).2.2.2 && ((riH s).2 && ((riM s).2 && ((riS s).2 && (riZ s).2))))
def moment_ReadInternal.f (s : ByteArray) : Option (Int × Int × Int × Int × Int × Int × Int × Int) :=
  if formI s then moment_read.f (riY s).1 (riY s).2.1 (riY s).2.2.1 (riH s).1 (riM s).1 (riS s).1 (riZ s).1 (riOk s) else some (0, 0, 0, 0, 0, 0, 0, 20)
theorem at_bt (s : ByteArray) (i : Nat) (h : i < s.size) : ((s[i]'h).toNat : Int) = bt s (i : Int) := bt_at s (i : Int) (by simpa using h)
set_option maxHeartbeats 4000000 in
set_option maxRecDepth 100000 in
theorem ri_no (s : ByteArray) (w : World) (hf : ¬ formI s) (hL : Laid w) :
    Calls Tryd.prog 32 #[.string s] w fun e w' => e = .returned (.tuple #[.agg #[.int .i64 0, .int .i64 0, .int .i64 0, .int .i64 0, .int .i64 0, .int .i64 0, .int .i64 0], .int .i64 20]) ∧ Below w.heap.size w w' := by
  have HL := Lib.hid (laid_below hL (below_alloc (Below.refl _ w) (.cells #[.int .i64 0, .int .i64 0, .int .i64 0, .int .i64 0, .int .i64 0, .int .i64 0, .int .i64 0] 23)))
  have HR : Hid (moment_read.f 0 0 0 0 0 0 0 false = some (0, 0, 0, 0, 0, 0, 0, 20)) := Lib.hid rfl
  clear hL
  by_cases h26 : s.size = 26
  · have g26 : ((s.size : Int) != 26) = false := by rw [bne_eq_false_iff_eq]; omega
    have hb11 : 11 < s.size := by omega
    by_cases q11 : bt s 11 = 32
    · have e11 : ((s[11]'hb11).toNat : Int) = 32 := by rw [at_bt]; exact q11
      have hb14 : 14 < s.size := by omega
      by_cases q14 : bt s 14 = 58
      · have e14 : ((s[14]'hb14).toNat : Int) = 58 := by rw [at_bt]; exact q14
        have hb17 : 17 < s.size := by omega
        by_cases q17 : bt s 17 = 58
        · have e17 : ((s[17]'hb17).toNat : Int) = 58 := by rw [at_bt]; exact q17
          have hb20 : 20 < s.size := by omega
          by_cases q20 : bt s 20 = 32
          · have e20 : ((s[20]'hb20).toNat : Int) = 32 := by rw [at_bt]; exact q20
            exact absurd ⟨h26, q11, q14, q17, q20⟩ hf
          · have e20 : (((s[20]'hb20).toNat : Int) != 32) = true := by rw [bne_iff_ne, at_bt]; exact q20
            clear q11
            clear q14
            clear q17
            clear q20
            clear hf
            go_enter Tryd.func32, Tryd.ntmps32
            go_wp2_with fail
            refine (moment_read.calls 0 0 0 0 0 0 0 false 0 0 0 0 0 0 0 20 _ HR.out HL.out).mono ?_
            rintro e w1 ⟨rfl, hb1⟩
            have hbx := (hb1.block w.heap.size (by simp)).trans (heap_alloc_new w _)
            have HB := Lib.hid (below_step (below_alloc (Below.refl _ w) _) hb1)
            obtain ⟨⟨c0, c1, c2, c3, c4, c5, c6⟩, fz⟩ := cells7 hbx
            have z0 := fz 0
            have z1 := fz 1
            have z2 := fz 2
            have z3 := fz 3
            have z4 := fz 4
            have z5 := fz 5
            have z6 := fz 6
            have HBX := Lib.hid hbx
            clear hb1 hbx fz
            go_wp2
            exact bodyPost_ret (results_ct rfl _ _ w.heap.size 23 #[.int .i64 0, .int .i64 0, .int .i64 0, .int .i64 0, .int .i64 0, .int .i64 0, .int .i64 0] (0, 0) _ rfl (set7 HBX.out _ _ _ _ _ _ _).1 Tryd.underlying23 rfl (by kernel_rfl)) rfl ⟨rfl, (set7 HBX.out _ _ _ _ _ _ _).2 _ _ HB.out (Nat.le_refl _)⟩
        · have e17 : (((s[17]'hb17).toNat : Int) != 58) = true := by rw [bne_iff_ne, at_bt]; exact q17
          clear q11
          clear q14
          clear q17
          clear hf
          go_enter Tryd.func32, Tryd.ntmps32
          go_wp2_with fail
          refine (moment_read.calls 0 0 0 0 0 0 0 false 0 0 0 0 0 0 0 20 _ HR.out HL.out).mono ?_
          rintro e w1 ⟨rfl, hb1⟩
          have hbx := (hb1.block w.heap.size (by simp)).trans (heap_alloc_new w _)
          have HB := Lib.hid (below_step (below_alloc (Below.refl _ w) _) hb1)
          obtain ⟨⟨c0, c1, c2, c3, c4, c5, c6⟩, fz⟩ := cells7 hbx
          have z0 := fz 0
          have z1 := fz 1
          have z2 := fz 2
          have z3 := fz 3
          have z4 := fz 4
          have z5 := fz 5
          have z6 := fz 6
          have HBX := Lib.hid hbx
          clear hb1 hbx fz
          go_wp2
          exact bodyPost_ret (results_ct rfl _ _ w.heap.size 23 #[.int .i64 0, .int .i64 0, .int .i64 0, .int .i64 0, .int .i64 0, .int .i64 0, .int .i64 0] (0, 0) _ rfl (set7 HBX.out _ _ _ _ _ _ _).1 Tryd.underlying23 rfl (by kernel_rfl)) rfl ⟨rfl, (set7 HBX.out _ _ _ _ _ _ _).2 _ _ HB.out (Nat.le_refl _)⟩
      · have e14 : (((s[14]'hb14).toNat : Int) != 58) = true := by rw [bne_iff_ne, at_bt]; exact q14
        clear q11
        clear q14
        clear hf
        go_enter Tryd.func32, Tryd.ntmps32
        go_wp2_with fail
        refine (moment_read.calls 0 0 0 0 0 0 0 false 0 0 0 0 0 0 0 20 _ HR.out HL.out).mono ?_
        rintro e w1 ⟨rfl, hb1⟩
        have hbx := (hb1.block w.heap.size (by simp)).trans (heap_alloc_new w _)
        have HB := Lib.hid (below_step (below_alloc (Below.refl _ w) _) hb1)
        obtain ⟨⟨c0, c1, c2, c3, c4, c5, c6⟩, fz⟩ := cells7 hbx
        have z0 := fz 0
        have z1 := fz 1
        have z2 := fz 2
        have z3 := fz 3
        have z4 := fz 4
        have z5 := fz 5
        have z6 := fz 6
        have HBX := Lib.hid hbx
        clear hb1 hbx fz
        go_wp2
        exact bodyPost_ret (results_ct rfl _ _ w.heap.size 23 #[.int .i64 0, .int .i64 0, .int .i64 0, .int .i64 0, .int .i64 0, .int .i64 0, .int .i64 0] (0, 0) _ rfl (set7 HBX.out _ _ _ _ _ _ _).1 Tryd.underlying23 rfl (by kernel_rfl)) rfl ⟨rfl, (set7 HBX.out _ _ _ _ _ _ _).2 _ _ HB.out (Nat.le_refl _)⟩
    · have e11 : (((s[11]'hb11).toNat : Int) != 32) = true := by rw [bne_iff_ne, at_bt]; exact q11
      clear q11
      clear hf
      go_enter Tryd.func32, Tryd.ntmps32
      go_wp2_with fail
      refine (moment_read.calls 0 0 0 0 0 0 0 false 0 0 0 0 0 0 0 20 _ HR.out HL.out).mono ?_
      rintro e w1 ⟨rfl, hb1⟩
      have hbx := (hb1.block w.heap.size (by simp)).trans (heap_alloc_new w _)
      have HB := Lib.hid (below_step (below_alloc (Below.refl _ w) _) hb1)
      obtain ⟨⟨c0, c1, c2, c3, c4, c5, c6⟩, fz⟩ := cells7 hbx
      have z0 := fz 0
      have z1 := fz 1
      have z2 := fz 2
      have z3 := fz 3
      have z4 := fz 4
      have z5 := fz 5
      have z6 := fz 6
      have HBX := Lib.hid hbx
      clear hb1 hbx fz
      go_wp2
      exact bodyPost_ret (results_ct rfl _ _ w.heap.size 23 #[.int .i64 0, .int .i64 0, .int .i64 0, .int .i64 0, .int .i64 0, .int .i64 0, .int .i64 0] (0, 0) _ rfl (set7 HBX.out _ _ _ _ _ _ _).1 Tryd.underlying23 rfl (by kernel_rfl)) rfl ⟨rfl, (set7 HBX.out _ _ _ _ _ _ _).2 _ _ HB.out (Nat.le_refl _)⟩
  · have g26 : ((s.size : Int) != 26) = true := by rw [bne_iff_ne]; omega
    clear h26
    clear hf
    go_enter Tryd.func32, Tryd.ntmps32
    go_wp2_with fail
    refine (moment_read.calls 0 0 0 0 0 0 0 false 0 0 0 0 0 0 0 20 _ HR.out HL.out).mono ?_
    rintro e w1 ⟨rfl, hb1⟩
    have hbx := (hb1.block w.heap.size (by simp)).trans (heap_alloc_new w _)
    have HB := Lib.hid (below_step (below_alloc (Below.refl _ w) _) hb1)
    obtain ⟨⟨c0, c1, c2, c3, c4, c5, c6⟩, fz⟩ := cells7 hbx
    have z0 := fz 0
    have z1 := fz 1
    have z2 := fz 2
    have z3 := fz 3
    have z4 := fz 4
    have z5 := fz 5
    have z6 := fz 6
    have HBX := Lib.hid hbx
    clear hb1 hbx fz
    go_wp2
    exact bodyPost_ret (results_ct rfl _ _ w.heap.size 23 #[.int .i64 0, .int .i64 0, .int .i64 0, .int .i64 0, .int .i64 0, .int .i64 0, .int .i64 0] (0, 0) _ rfl (set7 HBX.out _ _ _ _ _ _ _).1 Tryd.underlying23 rfl (by kernel_rfl)) rfl ⟨rfl, (set7 HBX.out _ _ _ _ _ _ _).2 _ _ HB.out (Nat.le_refl _)⟩
set_option maxHeartbeats 8000000 in
set_option maxRecDepth 100000 in
theorem ri_yes (s D : ByteArray) (n y mo dd hh mi se zz : Int) (a b c e f g : Bool) (r1 r2 r3 r4 r5 r6 r7 r8 : Int) (w : World) (hf : formI s) (hD : dayT s = D)
    (h1 : digitsP D = (n, a)) (h2 : dayP n (s.extract 2 11) = (y, mo, dd, b)) (h3 : belowP (s.extract 12 14) 23 = (hh, c)) (h4 : belowP (s.extract 15 17) 59 = (mi, e)) (h5 : belowP (s.extract 18 20) 59 = (se, f)) (h6 : zoneT (s.extract 21 26) = (zz, g))
    (h : moment_read.f y mo dd hh mi se zz (a && (b && (c && (e && (f && g))))) = some (r1, r2, r3, r4, r5, r6, r7, r8)) (hL : Laid w) :
    Calls Tryd.prog 32 #[.string s] w fun e w' => e = .returned (.tuple #[.agg #[.int .i64 r1, .int .i64 r2, .int .i64 r3, .int .i64 r4, .int .i64 r5, .int .i64 r6, .int .i64 r7], .int .i64 r8]) ∧ Below w.heap.size w w' := by
  obtain ⟨h26, q11, q14, q17, q20⟩ := hf
  have sl1 : ∀ w' : World, (Instr.slice 9 (.string s) (some (.int .i64 2)) (some (.int .i64 11)) none).run Tryd.prog w' = .ok (.string (s.extract 2 11)) w' := fun w' => by rw [run_slice_string (P := Tryd.prog) w' 9 s .i64 .i64 2 11 Tryd.underlying9 (by omega) (by omega) (by omega)]; rfl
  have sl2 : ∀ w' : World, (Instr.slice 9 (.string s) (some (.int .i64 12)) (some (.int .i64 14)) none).run Tryd.prog w' = .ok (.string (s.extract 12 14)) w' := fun w' => by rw [run_slice_string (P := Tryd.prog) w' 9 s .i64 .i64 12 14 Tryd.underlying9 (by omega) (by omega) (by omega)]; rfl
  have sl3 : ∀ w' : World, (Instr.slice 9 (.string s) (some (.int .i64 15)) (some (.int .i64 17)) none).run Tryd.prog w' = .ok (.string (s.extract 15 17)) w' := fun w' => by rw [run_slice_string (P := Tryd.prog) w' 9 s .i64 .i64 15 17 Tryd.underlying9 (by omega) (by omega) (by omega)]; rfl
  have sl4 : ∀ w' : World, (Instr.slice 9 (.string s) (some (.int .i64 18)) (some (.int .i64 20)) none).run Tryd.prog w' = .ok (.string (s.extract 18 20)) w' := fun w' => by rw [run_slice_string (P := Tryd.prog) w' 9 s .i64 .i64 18 20 Tryd.underlying9 (by omega) (by omega) (by omega)]; rfl
  have H1 : Hid (moment_digits.f 7 D = some (n, a)) := Lib.hid (by rw [digits_f 7 (by omega), h1])
  have H2 : Hid (moment_day.f n (s.extract 2 11) = some (y, mo, dd, 0, 0, 0, 0, b)) := Lib.hid (by unfold moment_day.f; rw [h2])
  have H3 : Hid (moment_below.f 7 (s.extract 12 14) 23 = some (hh, c)) := Lib.hid (by rw [below_f 7 (by omega), h3])
  have H4 : Hid (moment_below.f 7 (s.extract 15 17) 59 = some (mi, e)) := Lib.hid (by rw [below_f 7 (by omega), h4])
  have H5 : Hid (moment_below.f 7 (s.extract 18 20) 59 = some (se, f)) := Lib.hid (by rw [below_f 7 (by omega), h5])
  have H6 : Hid (moment_zone.f 10 (s.extract 21 s.size) = some (zz, g)) := Lib.hid (by rw [h26, zone_f 10 (by omega), h6])
  have HR := Lib.hid h
  have HLD := Lib.hid hL
  have g26 : ((s.size : Int) != 26) = false := by rw [bne_eq_false_iff_eq]; omega
  have hb11 : 11 < s.size := by omega
  have e11 : ((s[11]'hb11).toNat : Int) = 32 := by rw [at_bt]; exact q11
  have hb14 : 14 < s.size := by omega
  have e14 : ((s[14]'hb14).toNat : Int) = 58 := by rw [at_bt]; exact q14
  have hb17 : 17 < s.size := by omega
  have e17 : ((s[17]'hb17).toNat : Int) = 58 := by rw [at_bt]; exact q17
  have hb20 : 20 < s.size := by omega
  have e20 : ((s[20]'hb20).toNat : Int) = 32 := by rw [at_bt]; exact q20
  have hDt : D = if bt (s.extract 0 2) 0 = 32 then (s.extract 0 2).extract 1 (s.extract 0 2).size else s.extract 0 2 := by
    rw [← hD]; unfold dayT
    have : (s.extract 0 2).size = 2 := by rw [ByteArray.size_extract]; omega
    rw [this]
  have hT2 : (s.extract 0 2).size = 2 := by rw [ByteArray.size_extract]; omega
  have hb26 : 26 ≤ s.size := by omega
  have H26 := Lib.hid h26
  have HDT := Lib.hid hDt
  clear h1 h2 h3 h4 h5 h6 h hL hD hDt q11 q14 q17 q20 h26
  go_enter Tryd.func32, Tryd.ntmps32
  go_upto_region 4 with fail
  obtain ⟨T, hT⟩ : ∃ T, s.extract 0 2 = T := ⟨_, rfl⟩
  rw [hT] at HDT hT2 ⊢
  clear hT
  have hT0 : 0 < T.size := by omega
  have hT1 : 1 ≤ T.size := by omega
  have HT2 := Lib.hid hT2
  clear hT2
  have key : ∀ (W : World), True := fun _ => trivial
  clear key
  by_cases q0 : bt T 0 = 32
  · skip
    have e0 : ((T[0]'hT0).toNat : Int) = 32 := by rw [at_bt]; exact q0
    have HDD : Hid (D = T.extract 1 T.size) := Lib.hid (by rw [HDT.out, if_pos q0])
    clear q0 HDT
    have H1x : Hid (moment_digits.f 7 (T.extract 1 T.size) = some (n, a)) := Lib.hid (by rw [← HDD.out]; exact H1.out)
    go_wp2_with fail
    refine (moment_digits.calls 7 (T.extract 1 T.size) n a _ H1x.out).mono ?_
    rintro e1 w1 ⟨rfl, ⟨nd, rfl⟩⟩
    go_wp2_with fail
    refine (moment_day.calls n (s.extract 2 11) y mo dd 0 0 0 0 b _ H2.out).mono ?_
    rintro e1 w1 ⟨rfl, hb1⟩
    have hr1 : w1.heap[w.heap.size]? = some (.cells #[.int .i64 0, .int .i64 0, .int .i64 0, .int .i64 0, .int .i64 0, .int .i64 0, .int .i64 0] 23 (0, 0)) := (hb1.block w.heap.size (by simp)).trans (heap_alloc_new w _)
    have hbe1 : Below w.heap.size w w1 := below_step (by repeat (first | (with_reducible exact Below.refl _ _) | (with_reducible apply pw_below_drewN) | (with_reducible apply below_alloc))) hb1
    have HR1 := Lib.hid hr1
    have HBE1 := Lib.hid hbe1
    have hlt1 : w.heap.size < w1.heap.size := blk_lt hr1
    clear hb1 hr1 hbe1
    go_wp2_with fail
    have hmb := heap_alloc_new w1 (.cells #[.int .i64 y, .int .i64 mo, .int .i64 dd, .int .i64 0, .int .i64 0, .int .i64 0, .int .i64 0] 23)
    have hr2 := (Below.heap_alloc w1 (.cells #[.int .i64 y, .int .i64 mo, .int .i64 dd, .int .i64 0, .int .i64 0, .int .i64 0, .int .i64 0] 23) _ hlt1).trans HR1.out
    have hbe2 := below_alloc HBE1.out (.cells #[.int .i64 y, .int .i64 mo, .int .i64 dd, .int .i64 0, .int .i64 0, .int .i64 0, .int .i64 0] 23)
    generalize w1.alloc (.cells #[.int .i64 y, .int .i64 mo, .int .i64 dd, .int .i64 0, .int .i64 0, .int .i64 0, .int .i64 0] 23) = w2 at *
    generalize w1.heap.size = mb at *
    have HMB := Lib.hid hmb
    have HR2 := Lib.hid hr2
    have HBE2 := Lib.hid hbe2
    clear hmb hr2 hbe2 HR1 HBE1
    refine (moment_below.calls 7 (s.extract 12 14) 23 hh c _ H3.out).mono ?_
    rintro e1 w3 ⟨rfl, ⟨nd0, rfl⟩⟩
    go_wp2_with fail
    refine (moment_below.calls 7 (s.extract 15 17) 59 mi e _ H4.out).mono ?_
    rintro e1 w3 ⟨rfl, ⟨nd1, rfl⟩⟩
    go_wp2_with fail
    refine (moment_below.calls 7 (s.extract 18 20) 59 se f _ H5.out).mono ?_
    rintro e1 w3 ⟨rfl, ⟨nd2, rfl⟩⟩
    go_wp2_with fail
    refine (moment_zone.calls 10 (s.extract 21 s.size) zz g _ H6.out).mono ?_
    rintro e1 w3 ⟨rfl, ⟨nd9, rfl⟩⟩
    go_upto_region 12 with fail
    have hm3 := blk_drewN HMB.out (nd0 + nd1 + nd2 + nd9)
    have hr3 := blk_drewN HR2.out (nd0 + nd1 + nd2 + nd9)
    have hbe3 := pw_below_drewN HBE2.out (nd0 + nd1 + nd2 + nd9)
    generalize w2.drewN (nd0 + nd1 + nd2 + nd9) = W at *
    clear HMB HR2 HBE2
    obtain ⟨⟨c0, c1, c2, c3, c4, c5, c6⟩, fz⟩ := cells7 hm3
    have z3 := fz 3
    have z4 := fz 4
    have z5 := fz 5
    have z6 := fz 6
    have HM3 := Lib.hid hm3
    have HR3 := Lib.hid hr3
    have HBE3 := Lib.hid hbe3
    clear fz hm3 hr3 hbe3
    go_upto_region 13 with fail
    have hm4 := blk_put (cs' := #[.int .i64 y, .int .i64 mo, .int .i64 dd, .int .i64 hh, .int .i64 mi, .int .i64 se, .int .i64 zz]) (blk_put (cs' := #[.int .i64 y, .int .i64 mo, .int .i64 dd, .int .i64 hh, .int .i64 mi, .int .i64 se, .int .i64 0]) (blk_put (cs' := #[.int .i64 y, .int .i64 mo, .int .i64 dd, .int .i64 hh, .int .i64 mi, .int .i64 0, .int .i64 0]) (blk_put (cs' := #[.int .i64 y, .int .i64 mo, .int .i64 dd, .int .i64 hh, .int .i64 0, .int .i64 0, .int .i64 0]) HM3.out 3 (.int .i64 hh) rfl) 4 (.int .i64 mi) rfl) 5 (.int .i64 se) rfl) 6 (.int .i64 zz) rfl
    have hne : w.heap.size ≠ mb := Nat.ne_of_lt hlt1
    have hr4 := blk_far (p := ⟨mb, 6, none⟩) (blk_far (p := ⟨mb, 5, none⟩) (blk_far (p := ⟨mb, 4, none⟩) (blk_far (p := ⟨mb, 3, none⟩) HR3.out hne (.int .i64 hh)) hne (.int .i64 mi)) hne (.int .i64 se)) hne (.int .i64 zz)
    have hbe4 := (((HBE3.out.setCell (p := ⟨mb, 3, none⟩) (Nat.le_of_lt hlt1) (.int .i64 hh)).setCell (p := ⟨mb, 4, none⟩) (Nat.le_of_lt hlt1) (.int .i64 mi)).setCell (p := ⟨mb, 5, none⟩) (Nat.le_of_lt hlt1) (.int .i64 se)).setCell (p := ⟨mb, 6, none⟩) (Nat.le_of_lt hlt1) (.int .i64 zz)
    clear c0 c1 c2 c3 c4 c5 c6 z3 z4 z5 z6
    generalize (((W.setCell ⟨mb, 3, none⟩ (.int .i64 hh)).setCell ⟨mb, 4, none⟩ (.int .i64 mi)).setCell ⟨mb, 5, none⟩ (.int .i64 se)).setCell ⟨mb, 6, none⟩ (.int .i64 zz) = W2 at *
    obtain ⟨⟨c0, c1, c2, c3, c4, c5, c6⟩, _⟩ := cells7 hm4
    have HR4 := Lib.hid hr4
    have HBE4 := Lib.hid hbe4
    have HLD4 := Lib.hid (laid_below HLD.out hbe4)
    clear hm4 hr4 hbe4 HM3 HR3 HBE3 hne HLD sl1 sl2 sl3 sl4 e11 e14 e17 e20 g26
    cases a with
    | false =>
      have HK : Hid (moment_read.f y mo dd hh mi se zz false = some (r1, r2, r3, r4, r5, r6, r7, r8)) := Lib.hid (by have h := HR.out; simpa using h)
      clear HR
      go_wp2_with fail
      refine (moment_read.calls y mo dd hh mi se zz false r1 r2 r3 r4 r5 r6 r7 r8 _ HK.out HLD4.out).mono ?_
      rintro e1 w5 ⟨rfl, hb5⟩
      have hr5 := (hb5.block w.heap.size (blk_lt HR4.out)).trans HR4.out
      have HBE5 := Lib.hid (below_step HBE4.out hb5)
      clear c0 c1 c2 c3 c4 c5 c6 hb5
      obtain ⟨⟨c0, c1, c2, c3, c4, c5, c6⟩, fz⟩ := cells7 hr5
      have z0 := fz 0
      have z1 := fz 1
      have z2 := fz 2
      have z3 := fz 3
      have z4 := fz 4
      have z5 := fz 5
      have z6 := fz 6
      have HR5 := Lib.hid hr5
      clear fz hr5
      go_wp2
      exact bodyPost_ret (results_ct rfl _ _ w.heap.size 23 #[.int .i64 r1, .int .i64 r2, .int .i64 r3, .int .i64 r4, .int .i64 r5, .int .i64 r6, .int .i64 r7] (0, 0) _ rfl (set7 HR5.out _ _ _ _ _ _ _).1 Tryd.underlying23 rfl (by kernel_rfl)) rfl ⟨rfl, (set7 HR5.out _ _ _ _ _ _ _).2 _ _ HBE5.out (Nat.le_refl _)⟩
    | true =>
      cases b with
      | false =>
        have HK : Hid (moment_read.f y mo dd hh mi se zz false = some (r1, r2, r3, r4, r5, r6, r7, r8)) := Lib.hid (by have h := HR.out; simpa using h)
        clear HR
        go_wp2_with fail
        refine (moment_read.calls y mo dd hh mi se zz false r1 r2 r3 r4 r5 r6 r7 r8 _ HK.out HLD4.out).mono ?_
        rintro e1 w5 ⟨rfl, hb5⟩
        have hr5 := (hb5.block w.heap.size (blk_lt HR4.out)).trans HR4.out
        have HBE5 := Lib.hid (below_step HBE4.out hb5)
        clear c0 c1 c2 c3 c4 c5 c6 hb5
        obtain ⟨⟨c0, c1, c2, c3, c4, c5, c6⟩, fz⟩ := cells7 hr5
        have z0 := fz 0
        have z1 := fz 1
        have z2 := fz 2
        have z3 := fz 3
        have z4 := fz 4
        have z5 := fz 5
        have z6 := fz 6
        have HR5 := Lib.hid hr5
        clear fz hr5
        go_wp2
        exact bodyPost_ret (results_ct rfl _ _ w.heap.size 23 #[.int .i64 r1, .int .i64 r2, .int .i64 r3, .int .i64 r4, .int .i64 r5, .int .i64 r6, .int .i64 r7] (0, 0) _ rfl (set7 HR5.out _ _ _ _ _ _ _).1 Tryd.underlying23 rfl (by kernel_rfl)) rfl ⟨rfl, (set7 HR5.out _ _ _ _ _ _ _).2 _ _ HBE5.out (Nat.le_refl _)⟩
      | true =>
        cases c with
        | false =>
          have HK : Hid (moment_read.f y mo dd hh mi se zz false = some (r1, r2, r3, r4, r5, r6, r7, r8)) := Lib.hid (by have h := HR.out; simpa using h)
          clear HR
          go_wp2_with fail
          refine (moment_read.calls y mo dd hh mi se zz false r1 r2 r3 r4 r5 r6 r7 r8 _ HK.out HLD4.out).mono ?_
          rintro e1 w5 ⟨rfl, hb5⟩
          have hr5 := (hb5.block w.heap.size (blk_lt HR4.out)).trans HR4.out
          have HBE5 := Lib.hid (below_step HBE4.out hb5)
          clear c0 c1 c2 c3 c4 c5 c6 hb5
          obtain ⟨⟨c0, c1, c2, c3, c4, c5, c6⟩, fz⟩ := cells7 hr5
          have z0 := fz 0
          have z1 := fz 1
          have z2 := fz 2
          have z3 := fz 3
          have z4 := fz 4
          have z5 := fz 5
          have z6 := fz 6
          have HR5 := Lib.hid hr5
          clear fz hr5
          go_wp2
          exact bodyPost_ret (results_ct rfl _ _ w.heap.size 23 #[.int .i64 r1, .int .i64 r2, .int .i64 r3, .int .i64 r4, .int .i64 r5, .int .i64 r6, .int .i64 r7] (0, 0) _ rfl (set7 HR5.out _ _ _ _ _ _ _).1 Tryd.underlying23 rfl (by kernel_rfl)) rfl ⟨rfl, (set7 HR5.out _ _ _ _ _ _ _).2 _ _ HBE5.out (Nat.le_refl _)⟩
        | true =>
          cases e with
          | false =>
            have HK : Hid (moment_read.f y mo dd hh mi se zz false = some (r1, r2, r3, r4, r5, r6, r7, r8)) := Lib.hid (by have h := HR.out; simpa using h)
            clear HR
            go_wp2_with fail
            refine (moment_read.calls y mo dd hh mi se zz false r1 r2 r3 r4 r5 r6 r7 r8 _ HK.out HLD4.out).mono ?_
            rintro e1 w5 ⟨rfl, hb5⟩
            have hr5 := (hb5.block w.heap.size (blk_lt HR4.out)).trans HR4.out
            have HBE5 := Lib.hid (below_step HBE4.out hb5)
            clear c0 c1 c2 c3 c4 c5 c6 hb5
            obtain ⟨⟨c0, c1, c2, c3, c4, c5, c6⟩, fz⟩ := cells7 hr5
            have z0 := fz 0
            have z1 := fz 1
            have z2 := fz 2
            have z3 := fz 3
            have z4 := fz 4
            have z5 := fz 5
            have z6 := fz 6
            have HR5 := Lib.hid hr5
            clear fz hr5
            go_wp2
            exact bodyPost_ret (results_ct rfl _ _ w.heap.size 23 #[.int .i64 r1, .int .i64 r2, .int .i64 r3, .int .i64 r4, .int .i64 r5, .int .i64 r6, .int .i64 r7] (0, 0) _ rfl (set7 HR5.out _ _ _ _ _ _ _).1 Tryd.underlying23 rfl (by kernel_rfl)) rfl ⟨rfl, (set7 HR5.out _ _ _ _ _ _ _).2 _ _ HBE5.out (Nat.le_refl _)⟩
          | true =>
            cases f with
            | false =>
              have HK : Hid (moment_read.f y mo dd hh mi se zz false = some (r1, r2, r3, r4, r5, r6, r7, r8)) := Lib.hid (by have h := HR.out; simpa using h)
              clear HR
              go_wp2_with fail
              refine (moment_read.calls y mo dd hh mi se zz false r1 r2 r3 r4 r5 r6 r7 r8 _ HK.out HLD4.out).mono ?_
              rintro e1 w5 ⟨rfl, hb5⟩
              have hr5 := (hb5.block w.heap.size (blk_lt HR4.out)).trans HR4.out
              have HBE5 := Lib.hid (below_step HBE4.out hb5)
              clear c0 c1 c2 c3 c4 c5 c6 hb5
              obtain ⟨⟨c0, c1, c2, c3, c4, c5, c6⟩, fz⟩ := cells7 hr5
              have z0 := fz 0
              have z1 := fz 1
              have z2 := fz 2
              have z3 := fz 3
              have z4 := fz 4
              have z5 := fz 5
              have z6 := fz 6
              have HR5 := Lib.hid hr5
              clear fz hr5
              go_wp2
              exact bodyPost_ret (results_ct rfl _ _ w.heap.size 23 #[.int .i64 r1, .int .i64 r2, .int .i64 r3, .int .i64 r4, .int .i64 r5, .int .i64 r6, .int .i64 r7] (0, 0) _ rfl (set7 HR5.out _ _ _ _ _ _ _).1 Tryd.underlying23 rfl (by kernel_rfl)) rfl ⟨rfl, (set7 HR5.out _ _ _ _ _ _ _).2 _ _ HBE5.out (Nat.le_refl _)⟩
            | true =>
              cases g with
              | false =>
                have HK : Hid (moment_read.f y mo dd hh mi se zz false = some (r1, r2, r3, r4, r5, r6, r7, r8)) := Lib.hid (by have h := HR.out; simpa using h)
                clear HR
                go_wp2_with fail
                refine (moment_read.calls y mo dd hh mi se zz false r1 r2 r3 r4 r5 r6 r7 r8 _ HK.out HLD4.out).mono ?_
                rintro e1 w5 ⟨rfl, hb5⟩
                have hr5 := (hb5.block w.heap.size (blk_lt HR4.out)).trans HR4.out
                have HBE5 := Lib.hid (below_step HBE4.out hb5)
                clear c0 c1 c2 c3 c4 c5 c6 hb5
                obtain ⟨⟨c0, c1, c2, c3, c4, c5, c6⟩, fz⟩ := cells7 hr5
                have z0 := fz 0
                have z1 := fz 1
                have z2 := fz 2
                have z3 := fz 3
                have z4 := fz 4
                have z5 := fz 5
                have z6 := fz 6
                have HR5 := Lib.hid hr5
                clear fz hr5
                go_wp2
                exact bodyPost_ret (results_ct rfl _ _ w.heap.size 23 #[.int .i64 r1, .int .i64 r2, .int .i64 r3, .int .i64 r4, .int .i64 r5, .int .i64 r6, .int .i64 r7] (0, 0) _ rfl (set7 HR5.out _ _ _ _ _ _ _).1 Tryd.underlying23 rfl (by kernel_rfl)) rfl ⟨rfl, (set7 HR5.out _ _ _ _ _ _ _).2 _ _ HBE5.out (Nat.le_refl _)⟩
              | true =>
                have HK : Hid (moment_read.f y mo dd hh mi se zz true = some (r1, r2, r3, r4, r5, r6, r7, r8)) := Lib.hid (by have h := HR.out; simpa using h)
                clear HR
                go_wp2_with fail
                refine (moment_read.calls y mo dd hh mi se zz true r1 r2 r3 r4 r5 r6 r7 r8 _ HK.out HLD4.out).mono ?_
                rintro e1 w5 ⟨rfl, hb5⟩
                have hr5 := (hb5.block w.heap.size (blk_lt HR4.out)).trans HR4.out
                have HBE5 := Lib.hid (below_step HBE4.out hb5)
                clear c0 c1 c2 c3 c4 c5 c6 hb5
                obtain ⟨⟨c0, c1, c2, c3, c4, c5, c6⟩, fz⟩ := cells7 hr5
                have z0 := fz 0
                have z1 := fz 1
                have z2 := fz 2
                have z3 := fz 3
                have z4 := fz 4
                have z5 := fz 5
                have z6 := fz 6
                have HR5 := Lib.hid hr5
                clear fz hr5
                go_wp2
                exact bodyPost_ret (results_ct rfl _ _ w.heap.size 23 #[.int .i64 r1, .int .i64 r2, .int .i64 r3, .int .i64 r4, .int .i64 r5, .int .i64 r6, .int .i64 r7] (0, 0) _ rfl (set7 HR5.out _ _ _ _ _ _ _).1 Tryd.underlying23 rfl (by kernel_rfl)) rfl ⟨rfl, (set7 HR5.out _ _ _ _ _ _ _).2 _ _ HBE5.out (Nat.le_refl _)⟩
  · skip
    have e0 : (((T[0]'hT0).toNat : Int) == 32) = false := by rw [beq_eq_false_iff_ne, at_bt]; exact q0
    have HDD : Hid (D = T) := Lib.hid (by rw [HDT.out, if_neg q0])
    clear q0 HDT
    have H1x : Hid (moment_digits.f 7 T = some (n, a)) := Lib.hid (by rw [← HDD.out]; exact H1.out)
    go_wp2_with fail
    refine (moment_digits.calls 7 T n a _ H1x.out).mono ?_
    rintro e1 w1 ⟨rfl, ⟨nd, rfl⟩⟩
    go_wp2_with fail
    refine (moment_day.calls n (s.extract 2 11) y mo dd 0 0 0 0 b _ H2.out).mono ?_
    rintro e1 w1 ⟨rfl, hb1⟩
    have hr1 : w1.heap[w.heap.size]? = some (.cells #[.int .i64 0, .int .i64 0, .int .i64 0, .int .i64 0, .int .i64 0, .int .i64 0, .int .i64 0] 23 (0, 0)) := (hb1.block w.heap.size (by simp)).trans (heap_alloc_new w _)
    have hbe1 : Below w.heap.size w w1 := below_step (by repeat (first | (with_reducible exact Below.refl _ _) | (with_reducible apply pw_below_drewN) | (with_reducible apply below_alloc))) hb1
    have HR1 := Lib.hid hr1
    have HBE1 := Lib.hid hbe1
    have hlt1 : w.heap.size < w1.heap.size := blk_lt hr1
    clear hb1 hr1 hbe1
    go_wp2_with fail
    have hmb := heap_alloc_new w1 (.cells #[.int .i64 y, .int .i64 mo, .int .i64 dd, .int .i64 0, .int .i64 0, .int .i64 0, .int .i64 0] 23)
    have hr2 := (Below.heap_alloc w1 (.cells #[.int .i64 y, .int .i64 mo, .int .i64 dd, .int .i64 0, .int .i64 0, .int .i64 0, .int .i64 0] 23) _ hlt1).trans HR1.out
    have hbe2 := below_alloc HBE1.out (.cells #[.int .i64 y, .int .i64 mo, .int .i64 dd, .int .i64 0, .int .i64 0, .int .i64 0, .int .i64 0] 23)
    generalize w1.alloc (.cells #[.int .i64 y, .int .i64 mo, .int .i64 dd, .int .i64 0, .int .i64 0, .int .i64 0, .int .i64 0] 23) = w2 at *
    generalize w1.heap.size = mb at *
    have HMB := Lib.hid hmb
    have HR2 := Lib.hid hr2
    have HBE2 := Lib.hid hbe2
    clear hmb hr2 hbe2 HR1 HBE1
    refine (moment_below.calls 7 (s.extract 12 14) 23 hh c _ H3.out).mono ?_
    rintro e1 w3 ⟨rfl, ⟨nd0, rfl⟩⟩
    go_wp2_with fail
    refine (moment_below.calls 7 (s.extract 15 17) 59 mi e _ H4.out).mono ?_
    rintro e1 w3 ⟨rfl, ⟨nd1, rfl⟩⟩
    go_wp2_with fail
    refine (moment_below.calls 7 (s.extract 18 20) 59 se f _ H5.out).mono ?_
    rintro e1 w3 ⟨rfl, ⟨nd2, rfl⟩⟩
    go_wp2_with fail
    refine (moment_zone.calls 10 (s.extract 21 s.size) zz g _ H6.out).mono ?_
    rintro e1 w3 ⟨rfl, ⟨nd9, rfl⟩⟩
    go_upto_region 12 with fail
    have hm3 := blk_drewN HMB.out (nd0 + nd1 + nd2 + nd9)
    have hr3 := blk_drewN HR2.out (nd0 + nd1 + nd2 + nd9)
    have hbe3 := pw_below_drewN HBE2.out (nd0 + nd1 + nd2 + nd9)
    generalize w2.drewN (nd0 + nd1 + nd2 + nd9) = W at *
    clear HMB HR2 HBE2
    obtain ⟨⟨c0, c1, c2, c3, c4, c5, c6⟩, fz⟩ := cells7 hm3
    have z3 := fz 3
    have z4 := fz 4
    have z5 := fz 5
    have z6 := fz 6
    have HM3 := Lib.hid hm3
    have HR3 := Lib.hid hr3
    have HBE3 := Lib.hid hbe3
    clear fz hm3 hr3 hbe3
    go_upto_region 13 with fail
    have hm4 := blk_put (cs' := #[.int .i64 y, .int .i64 mo, .int .i64 dd, .int .i64 hh, .int .i64 mi, .int .i64 se, .int .i64 zz]) (blk_put (cs' := #[.int .i64 y, .int .i64 mo, .int .i64 dd, .int .i64 hh, .int .i64 mi, .int .i64 se, .int .i64 0]) (blk_put (cs' := #[.int .i64 y, .int .i64 mo, .int .i64 dd, .int .i64 hh, .int .i64 mi, .int .i64 0, .int .i64 0]) (blk_put (cs' := #[.int .i64 y, .int .i64 mo, .int .i64 dd, .int .i64 hh, .int .i64 0, .int .i64 0, .int .i64 0]) HM3.out 3 (.int .i64 hh) rfl) 4 (.int .i64 mi) rfl) 5 (.int .i64 se) rfl) 6 (.int .i64 zz) rfl
    have hne : w.heap.size ≠ mb := Nat.ne_of_lt hlt1
    have hr4 := blk_far (p := ⟨mb, 6, none⟩) (blk_far (p := ⟨mb, 5, none⟩) (blk_far (p := ⟨mb, 4, none⟩) (blk_far (p := ⟨mb, 3, none⟩) HR3.out hne (.int .i64 hh)) hne (.int .i64 mi)) hne (.int .i64 se)) hne (.int .i64 zz)
    have hbe4 := (((HBE3.out.setCell (p := ⟨mb, 3, none⟩) (Nat.le_of_lt hlt1) (.int .i64 hh)).setCell (p := ⟨mb, 4, none⟩) (Nat.le_of_lt hlt1) (.int .i64 mi)).setCell (p := ⟨mb, 5, none⟩) (Nat.le_of_lt hlt1) (.int .i64 se)).setCell (p := ⟨mb, 6, none⟩) (Nat.le_of_lt hlt1) (.int .i64 zz)
    clear c0 c1 c2 c3 c4 c5 c6 z3 z4 z5 z6
    generalize (((W.setCell ⟨mb, 3, none⟩ (.int .i64 hh)).setCell ⟨mb, 4, none⟩ (.int .i64 mi)).setCell ⟨mb, 5, none⟩ (.int .i64 se)).setCell ⟨mb, 6, none⟩ (.int .i64 zz) = W2 at *
    obtain ⟨⟨c0, c1, c2, c3, c4, c5, c6⟩, _⟩ := cells7 hm4
    have HR4 := Lib.hid hr4
    have HBE4 := Lib.hid hbe4
    have HLD4 := Lib.hid (laid_below HLD.out hbe4)
    clear hm4 hr4 hbe4 HM3 HR3 HBE3 hne HLD sl1 sl2 sl3 sl4 e11 e14 e17 e20 g26
    cases a with
    | false =>
      have HK : Hid (moment_read.f y mo dd hh mi se zz false = some (r1, r2, r3, r4, r5, r6, r7, r8)) := Lib.hid (by have h := HR.out; simpa using h)
      clear HR
      go_wp2_with fail
      refine (moment_read.calls y mo dd hh mi se zz false r1 r2 r3 r4 r5 r6 r7 r8 _ HK.out HLD4.out).mono ?_
      rintro e1 w5 ⟨rfl, hb5⟩
      have hr5 := (hb5.block w.heap.size (blk_lt HR4.out)).trans HR4.out
      have HBE5 := Lib.hid (below_step HBE4.out hb5)
      clear c0 c1 c2 c3 c4 c5 c6 hb5
      obtain ⟨⟨c0, c1, c2, c3, c4, c5, c6⟩, fz⟩ := cells7 hr5
      have z0 := fz 0
      have z1 := fz 1
      have z2 := fz 2
      have z3 := fz 3
      have z4 := fz 4
      have z5 := fz 5
      have z6 := fz 6
      have HR5 := Lib.hid hr5
      clear fz hr5
      go_wp2
      exact bodyPost_ret (results_ct rfl _ _ w.heap.size 23 #[.int .i64 r1, .int .i64 r2, .int .i64 r3, .int .i64 r4, .int .i64 r5, .int .i64 r6, .int .i64 r7] (0, 0) _ rfl (set7 HR5.out _ _ _ _ _ _ _).1 Tryd.underlying23 rfl (by kernel_rfl)) rfl ⟨rfl, (set7 HR5.out _ _ _ _ _ _ _).2 _ _ HBE5.out (Nat.le_refl _)⟩
    | true =>
      cases b with
      | false =>
        have HK : Hid (moment_read.f y mo dd hh mi se zz false = some (r1, r2, r3, r4, r5, r6, r7, r8)) := Lib.hid (by have h := HR.out; simpa using h)
        clear HR
        go_wp2_with fail
        refine (moment_read.calls y mo dd hh mi se zz false r1 r2 r3 r4 r5 r6 r7 r8 _ HK.out HLD4.out).mono ?_
        rintro e1 w5 ⟨rfl, hb5⟩
        have hr5 := (hb5.block w.heap.size (blk_lt HR4.out)).trans HR4.out
        have HBE5 := Lib.hid (below_step HBE4.out hb5)
        clear c0 c1 c2 c3 c4 c5 c6 hb5
        obtain ⟨⟨c0, c1, c2, c3, c4, c5, c6⟩, fz⟩ := cells7 hr5
        have z0 := fz 0
        have z1 := fz 1
        have z2 := fz 2
        have z3 := fz 3
        have z4 := fz 4
        have z5 := fz 5
        have z6 := fz 6
        have HR5 := Lib.hid hr5
        clear fz hr5
        go_wp2
        exact bodyPost_ret (results_ct rfl _ _ w.heap.size 23 #[.int .i64 r1, .int .i64 r2, .int .i64 r3, .int .i64 r4, .int .i64 r5, .int .i64 r6, .int .i64 r7] (0, 0) _ rfl (set7 HR5.out _ _ _ _ _ _ _).1 Tryd.underlying23 rfl (by kernel_rfl)) rfl ⟨rfl, (set7 HR5.out _ _ _ _ _ _ _).2 _ _ HBE5.out (Nat.le_refl _)⟩
      | true =>
        cases c with
        | false =>
          have HK : Hid (moment_read.f y mo dd hh mi se zz false = some (r1, r2, r3, r4, r5, r6, r7, r8)) := Lib.hid (by have h := HR.out; simpa using h)
          clear HR
          go_wp2_with fail
          refine (moment_read.calls y mo dd hh mi se zz false r1 r2 r3 r4 r5 r6 r7 r8 _ HK.out HLD4.out).mono ?_
          rintro e1 w5 ⟨rfl, hb5⟩
          have hr5 := (hb5.block w.heap.size (blk_lt HR4.out)).trans HR4.out
          have HBE5 := Lib.hid (below_step HBE4.out hb5)
          clear c0 c1 c2 c3 c4 c5 c6 hb5
          obtain ⟨⟨c0, c1, c2, c3, c4, c5, c6⟩, fz⟩ := cells7 hr5
          have z0 := fz 0
          have z1 := fz 1
          have z2 := fz 2
          have z3 := fz 3
          have z4 := fz 4
          have z5 := fz 5
          have z6 := fz 6
          have HR5 := Lib.hid hr5
          clear fz hr5
          go_wp2
          exact bodyPost_ret (results_ct rfl _ _ w.heap.size 23 #[.int .i64 r1, .int .i64 r2, .int .i64 r3, .int .i64 r4, .int .i64 r5, .int .i64 r6, .int .i64 r7] (0, 0) _ rfl (set7 HR5.out _ _ _ _ _ _ _).1 Tryd.underlying23 rfl (by kernel_rfl)) rfl ⟨rfl, (set7 HR5.out _ _ _ _ _ _ _).2 _ _ HBE5.out (Nat.le_refl _)⟩
        | true =>
          cases e with
          | false =>
            have HK : Hid (moment_read.f y mo dd hh mi se zz false = some (r1, r2, r3, r4, r5, r6, r7, r8)) := Lib.hid (by have h := HR.out; simpa using h)
            clear HR
            go_wp2_with fail
            refine (moment_read.calls y mo dd hh mi se zz false r1 r2 r3 r4 r5 r6 r7 r8 _ HK.out HLD4.out).mono ?_
            rintro e1 w5 ⟨rfl, hb5⟩
            have hr5 := (hb5.block w.heap.size (blk_lt HR4.out)).trans HR4.out
            have HBE5 := Lib.hid (below_step HBE4.out hb5)
            clear c0 c1 c2 c3 c4 c5 c6 hb5
            obtain ⟨⟨c0, c1, c2, c3, c4, c5, c6⟩, fz⟩ := cells7 hr5
            have z0 := fz 0
            have z1 := fz 1
            have z2 := fz 2
            have z3 := fz 3
            have z4 := fz 4
            have z5 := fz 5
            have z6 := fz 6
            have HR5 := Lib.hid hr5
            clear fz hr5
            go_wp2
            exact bodyPost_ret (results_ct rfl _ _ w.heap.size 23 #[.int .i64 r1, .int .i64 r2, .int .i64 r3, .int .i64 r4, .int .i64 r5, .int .i64 r6, .int .i64 r7] (0, 0) _ rfl (set7 HR5.out _ _ _ _ _ _ _).1 Tryd.underlying23 rfl (by kernel_rfl)) rfl ⟨rfl, (set7 HR5.out _ _ _ _ _ _ _).2 _ _ HBE5.out (Nat.le_refl _)⟩
          | true =>
            cases f with
            | false =>
              have HK : Hid (moment_read.f y mo dd hh mi se zz false = some (r1, r2, r3, r4, r5, r6, r7, r8)) := Lib.hid (by have h := HR.out; simpa using h)
              clear HR
              go_wp2_with fail
              refine (moment_read.calls y mo dd hh mi se zz false r1 r2 r3 r4 r5 r6 r7 r8 _ HK.out HLD4.out).mono ?_
              rintro e1 w5 ⟨rfl, hb5⟩
              have hr5 := (hb5.block w.heap.size (blk_lt HR4.out)).trans HR4.out
              have HBE5 := Lib.hid (below_step HBE4.out hb5)
              clear c0 c1 c2 c3 c4 c5 c6 hb5
              obtain ⟨⟨c0, c1, c2, c3, c4, c5, c6⟩, fz⟩ := cells7 hr5
              have z0 := fz 0
              have z1 := fz 1
              have z2 := fz 2
              have z3 := fz 3
              have z4 := fz 4
              have z5 := fz 5
              have z6 := fz 6
              have HR5 := Lib.hid hr5
              clear fz hr5
              go_wp2
              exact bodyPost_ret (results_ct rfl _ _ w.heap.size 23 #[.int .i64 r1, .int .i64 r2, .int .i64 r3, .int .i64 r4, .int .i64 r5, .int .i64 r6, .int .i64 r7] (0, 0) _ rfl (set7 HR5.out _ _ _ _ _ _ _).1 Tryd.underlying23 rfl (by kernel_rfl)) rfl ⟨rfl, (set7 HR5.out _ _ _ _ _ _ _).2 _ _ HBE5.out (Nat.le_refl _)⟩
            | true =>
              cases g with
              | false =>
                have HK : Hid (moment_read.f y mo dd hh mi se zz false = some (r1, r2, r3, r4, r5, r6, r7, r8)) := Lib.hid (by have h := HR.out; simpa using h)
                clear HR
                go_wp2_with fail
                refine (moment_read.calls y mo dd hh mi se zz false r1 r2 r3 r4 r5 r6 r7 r8 _ HK.out HLD4.out).mono ?_
                rintro e1 w5 ⟨rfl, hb5⟩
                have hr5 := (hb5.block w.heap.size (blk_lt HR4.out)).trans HR4.out
                have HBE5 := Lib.hid (below_step HBE4.out hb5)
                clear c0 c1 c2 c3 c4 c5 c6 hb5
                obtain ⟨⟨c0, c1, c2, c3, c4, c5, c6⟩, fz⟩ := cells7 hr5
                have z0 := fz 0
                have z1 := fz 1
                have z2 := fz 2
                have z3 := fz 3
                have z4 := fz 4
                have z5 := fz 5
                have z6 := fz 6
                have HR5 := Lib.hid hr5
                clear fz hr5
                go_wp2
                exact bodyPost_ret (results_ct rfl _ _ w.heap.size 23 #[.int .i64 r1, .int .i64 r2, .int .i64 r3, .int .i64 r4, .int .i64 r5, .int .i64 r6, .int .i64 r7] (0, 0) _ rfl (set7 HR5.out _ _ _ _ _ _ _).1 Tryd.underlying23 rfl (by kernel_rfl)) rfl ⟨rfl, (set7 HR5.out _ _ _ _ _ _ _).2 _ _ HBE5.out (Nat.le_refl _)⟩
              | true =>
                have HK : Hid (moment_read.f y mo dd hh mi se zz true = some (r1, r2, r3, r4, r5, r6, r7, r8)) := Lib.hid (by have h := HR.out; simpa using h)
                clear HR
                go_wp2_with fail
                refine (moment_read.calls y mo dd hh mi se zz true r1 r2 r3 r4 r5 r6 r7 r8 _ HK.out HLD4.out).mono ?_
                rintro e1 w5 ⟨rfl, hb5⟩
                have hr5 := (hb5.block w.heap.size (blk_lt HR4.out)).trans HR4.out
                have HBE5 := Lib.hid (below_step HBE4.out hb5)
                clear c0 c1 c2 c3 c4 c5 c6 hb5
                obtain ⟨⟨c0, c1, c2, c3, c4, c5, c6⟩, fz⟩ := cells7 hr5
                have z0 := fz 0
                have z1 := fz 1
                have z2 := fz 2
                have z3 := fz 3
                have z4 := fz 4
                have z5 := fz 5
                have z6 := fz 6
                have HR5 := Lib.hid hr5
                clear fz hr5
                go_wp2
                exact bodyPost_ret (results_ct rfl _ _ w.heap.size 23 #[.int .i64 r1, .int .i64 r2, .int .i64 r3, .int .i64 r4, .int .i64 r5, .int .i64 r6, .int .i64 r7] (0, 0) _ rfl (set7 HR5.out _ _ _ _ _ _ _).1 Tryd.underlying23 rfl (by kernel_rfl)) rfl ⟨rfl, (set7 HR5.out _ _ _ _ _ _ _).2 _ _ HBE5.out (Nat.le_refl _)⟩
theorem moment_ReadInternal.calls (a0 : ByteArray) (r1 r2 r3 r4 r5 r6 r7 r8 : Int) (w : World) (h : moment_ReadInternal.f a0 = some (r1, r2, r3, r4, r5, r6, r7, r8)) (hL : Laid w) :
    Calls Tryd.prog 32 #[.string a0] w fun e w' => e = .returned (.tuple #[.agg #[.int .i64 r1, .int .i64 r2, .int .i64 r3, .int .i64 r4, .int .i64 r5, .int .i64 r6, .int .i64 r7], .int .i64 r8]) ∧ Below w.heap.size w w' := by
  unfold moment_ReadInternal.f at h
  by_cases hf : formI a0
  · rw [if_pos hf] at h
    exact ri_yes a0 (dayT a0) (riD a0).1 (riY a0).1 (riY a0).2.1 (riY a0).2.2.1 (riH a0).1 (riM a0).1 (riS a0).1 (riZ a0).1 (riD a0).2 (riY a0).2.2.2 (riH a0).2 (riM a0).2 (riS a0).2 (riZ a0).2 r1 r2 r3 r4 r5 r6 r7 r8 w hf rfl (pair_eta _) (quad_eta _) (pair_eta _) (pair_eta _) (pair_eta _) (pair_eta _) h hL
  · rw [if_neg hf] at h
    have h := Option.some.inj h
    simp only [Prod.mk.injEq] at h
    obtain ⟨rfl, rfl, rfl, rfl, rfl, rfl, rfl, rfl⟩ := h
    exact ri_no a0 w hf hL
end Go.Proofs.YtjlchnmpebdggaaDoor.Mo
end
section
namespace Go.Proofs.YtjlchnmpebdggaaDoor.Mo
open Go.RowKit Go.Proofs.YtjlchnmpebdggaaDoorW.PrintWords
def text1 : ByteArray := ⟨#[32, 49, 45, 70, 101, 98, 45, 50, 48, 50, 54, 32, 49, 48, 58, 48, 48, 58, 48, 48, 32, 43, 48, 49, 48, 48]⟩
def text2 : ByteArray := ⟨#[49, 32, 70, 101, 98, 32, 50, 48, 50, 54, 32, 49, 48, 58, 48, 48, 32, 43, 48, 49, 48, 48]⟩
theorem kn_print : moment_PrintInternal.f 2026 2 1 10 0 0 60 = some (text1, 0) := by kernel_rfl
theorem kn_read : moment_ReadInternal.f text1 = some (2026, 2, 1, 10, 0, 0, 60, 0) := by kernel_rfl
theorem kn_head : moment_ReadHeader.f text2 = some (2026, 2, 1, 10, 0, 0, 60, 0) := by kernel_rfl
theorem kn_valid : moment_Valid.f 2026 2 1 10 0 0 60 = some true := by kernel_rfl
theorem kn_week : moment_Weekday.f 20 2026 2 1 10 0 0 60 = some 0 := by kernel_rfl
theorem kn_days : moment_Days.f 20 2026 2 1 10 0 0 60 = some 20485 := by kernel_rfl
set_option maxHeartbeats 4000000 in
set_option maxRecDepth 100000 in
theorem known_calls (w : World) (hL : Laid w) : Calls Tryd.prog 15 #[] w fun e w' => e = .returned (.bool true) ∧ Below w.heap.size w w' := by
  have HL := Lib.hid hL
  clear hL
  have K1 := Lib.hid kn_print
  have K2 := Lib.hid kn_read
  have K3 := Lib.hid kn_head
  have K4 := Lib.hid kn_valid
  have K5 := Lib.hid kn_week
  have K6 := Lib.hid kn_days
  go_enter Tryd.func15, Tryd.ntmps15
  go_wp2_with fail
  have HA := Lib.hid (heap_alloc_new w (.cells #[.int .i64 2026, .int .i64 2, .int .i64 1, .int .i64 10, .int .i64 0, .int .i64 0, .int .i64 60] 23))
  have HB := Lib.hid (below_alloc (Below.refl _ w) (.cells #[.int .i64 2026, .int .i64 2, .int .i64 1, .int .i64 10, .int .i64 0, .int .i64 0, .int .i64 60] 23))
  generalize w.alloc (.cells #[.int .i64 2026, .int .i64 2, .int .i64 1, .int .i64 10, .int .i64 0, .int .i64 0, .int .i64 60] 23) = w0 at *
  refine (moment_PrintInternal.calls 2026 2 1 10 0 0 60 text1 0 _ K1.out (laid_below HL.out (by repeat (first | (with_reducible exact HB.out) | (with_reducible apply below_drew) | (with_reducible apply pw_below_drewN) | exact HB.out)))).mono ?_
  rintro e w1 ⟨rfl, hb⟩
  have n0_ := Lib.hid (below_step (by repeat (first | (with_reducible exact HB.out) | (with_reducible apply below_drew) | (with_reducible apply pw_below_drewN) | exact HB.out)) hb)
  clear HB
  have HB := n0_
  clear n0_
  have n0_ := Lib.hid ((hb.block _ (blk_lt HA.out)).trans HA.out)
  clear HA
  have HA := n0_
  clear n0_
  clear hb
  go_wp2_with fail
  refine (moment_ReadInternal.calls text1 2026 2 1 10 0 0 60 0 _ K2.out (laid_below HL.out (by repeat (first | (with_reducible exact HB.out) | (with_reducible apply below_drew) | (with_reducible apply pw_below_drewN) | exact HB.out)))).mono ?_
  rintro e w2 ⟨rfl, hb⟩
  have n0_ := Lib.hid (below_step (by repeat (first | (with_reducible exact HB.out) | (with_reducible apply below_drew) | (with_reducible apply pw_below_drewN) | exact HB.out)) hb)
  clear HB
  have HB := n0_
  clear n0_
  have n0_ := Lib.hid ((hb.block _ (blk_lt HA.out)).trans HA.out)
  clear HA
  have HA := n0_
  clear n0_
  clear hb
  go_wp2_with fail
  have n1_ := Lib.hid (heap_alloc_new w2 (.cells #[.int .i64 2026, .int .i64 2, .int .i64 1, .int .i64 10, .int .i64 0, .int .i64 0, .int .i64 60] 23))
  have n0_ := Lib.hid ((Below.heap_alloc w2 (.cells #[.int .i64 2026, .int .i64 2, .int .i64 1, .int .i64 10, .int .i64 0, .int .i64 0, .int .i64 60] 23) _ (blk_lt HA.out)).trans HA.out)
  clear HA
  have HA := n0_
  clear n0_
  have HX := n1_
  clear n1_
  have n0_ := Lib.hid (below_alloc HB.out (.cells #[.int .i64 2026, .int .i64 2, .int .i64 1, .int .i64 10, .int .i64 0, .int .i64 0, .int .i64 60] 23))
  clear HB
  have HB := n0_
  clear n0_
  generalize w2.alloc (.cells #[.int .i64 2026, .int .i64 2, .int .i64 1, .int .i64 10, .int .i64 0, .int .i64 0, .int .i64 60] 23) = w3 at *
  refine (moment_ReadHeader.calls text2 2026 2 1 10 0 0 60 0 _ K3.out (laid_below HL.out (by repeat (first | (with_reducible exact HB.out) | (with_reducible apply below_drew) | (with_reducible apply pw_below_drewN) | exact HB.out)))).mono ?_
  rintro e w4 ⟨rfl, hb⟩
  have n0_ := Lib.hid (below_step (by repeat (first | (with_reducible exact HB.out) | (with_reducible apply below_drew) | (with_reducible apply pw_below_drewN) | exact HB.out)) hb)
  clear HB
  have HB := n0_
  clear n0_
  have n0_ := Lib.hid ((hb.block _ (blk_lt HA.out)).trans HA.out)
  clear HA
  have HA := n0_
  clear n0_
  have n0_ := Lib.hid ((hb.block _ (blk_lt HX.out)).trans HX.out)
  clear HX
  have HX := n0_
  clear n0_
  clear hb
  go_upto_region 5 with fail
  have n1_ := Lib.hid (heap_alloc_new w4 (.cells #[.int .i64 2026, .int .i64 2, .int .i64 1, .int .i64 10, .int .i64 0, .int .i64 0, .int .i64 60] 23))
  have n0_ := Lib.hid ((Below.heap_alloc w4 (.cells #[.int .i64 2026, .int .i64 2, .int .i64 1, .int .i64 10, .int .i64 0, .int .i64 0, .int .i64 60] 23) _ (blk_lt HA.out)).trans HA.out)
  clear HA
  have HA := n0_
  clear n0_
  have n0_ := Lib.hid ((Below.heap_alloc w4 (.cells #[.int .i64 2026, .int .i64 2, .int .i64 1, .int .i64 10, .int .i64 0, .int .i64 0, .int .i64 60] 23) _ (blk_lt HX.out)).trans HX.out)
  clear HX
  have HX := n0_
  clear n0_
  have HH := n1_
  clear n1_
  have n0_ := Lib.hid (below_alloc HB.out (.cells #[.int .i64 2026, .int .i64 2, .int .i64 1, .int .i64 10, .int .i64 0, .int .i64 0, .int .i64 60] 23))
  clear HB
  have HB := n0_
  clear n0_
  generalize w4.alloc (.cells #[.int .i64 2026, .int .i64 2, .int .i64 1, .int .i64 10, .int .i64 0, .int .i64 0, .int .i64 60] 23) = w5 at *
  obtain ⟨⟨a0, a1, a2, a3, a4, a5, a6⟩, _⟩ := cells7 HA.out
  obtain ⟨⟨x0, x1, x2, x3, x4, x5, x6⟩, _⟩ := cells7 HX.out
  obtain ⟨⟨y0, y1, y2, y3, y4, y5, y6⟩, _⟩ := cells7 HH.out
  go_wp2_with fail
  clear a0 a1 a2 a3 a4 a5 a6
  clear x0 x1 x2 x3 x4 x5 x6
  clear y0 y1 y2 y3 y4 y5 y6
  refine (moment_Valid.calls 2026 2 1 10 0 0 60 true _ K4.out (laid_below HL.out (by repeat (first | (with_reducible exact HB.out) | (with_reducible apply below_drew) | (with_reducible apply pw_below_drewN) | exact HB.out)))).mono ?_
  rintro e w6 ⟨rfl, hb⟩
  have n0_ := Lib.hid (below_step (by repeat (first | (with_reducible exact HB.out) | (with_reducible apply below_drew) | (with_reducible apply pw_below_drewN) | exact HB.out)) hb)
  clear HB
  have HB := n0_
  clear n0_
  have n0_ := Lib.hid ((hb.block _ (blk_lt HA.out)).trans HA.out)
  clear HA
  have HA := n0_
  clear n0_
  clear hb
  obtain ⟨⟨a0, a1, a2, a3, a4, a5, a6⟩, _⟩ := cells7 HA.out
  go_wp2_with fail
  clear a0 a1 a2 a3 a4 a5 a6
  refine (moment_Weekday.calls 20 2026 2 1 10 0 0 60 0 _ K5.out (laid_below HL.out (by repeat (first | (with_reducible exact HB.out) | (with_reducible apply below_drew) | (with_reducible apply pw_below_drewN) | exact HB.out)))).mono ?_
  rintro e w7 ⟨rfl, hb⟩
  have n0_ := Lib.hid (below_step (by repeat (first | (with_reducible exact HB.out) | (with_reducible apply below_drew) | (with_reducible apply pw_below_drewN) | exact HB.out)) hb)
  clear HB
  have HB := n0_
  clear n0_
  have n0_ := Lib.hid ((hb.block _ (blk_lt HA.out)).trans HA.out)
  clear HA
  have HA := n0_
  clear n0_
  clear hb
  obtain ⟨⟨a0, a1, a2, a3, a4, a5, a6⟩, _⟩ := cells7 HA.out
  go_wp2_with fail
  clear a0 a1 a2 a3 a4 a5 a6
  refine (moment_Days.calls 20 2026 2 1 10 0 0 60 20485 _ K6.out (laid_below HL.out (by repeat (first | (with_reducible exact HB.out) | (with_reducible apply below_drew) | (with_reducible apply pw_below_drewN) | exact HB.out)))).mono ?_
  rintro e w8 ⟨rfl, hb⟩
  have n0_ := Lib.hid (below_step (by repeat (first | (with_reducible exact HB.out) | (with_reducible apply below_drew) | (with_reducible apply pw_below_drewN) | exact HB.out)) hb)
  clear HB
  have HB := n0_
  clear n0_
  have n0_ := Lib.hid ((hb.block _ (blk_lt HA.out)).trans HA.out)
  clear HA
  have HA := n0_
  clear n0_
  clear hb
  go_wp2
  go_ret
  exact ⟨rfl, HB.out⟩
def postbaglaw2_known.f : Option Bool := some true
theorem postbaglaw2_known.calls (r : Bool) (w : World) (h : postbaglaw2_known.f = some r) (hL : Laid w) :
    Calls Tryd.prog 15 #[] w fun e w' => e = .returned (.bool r) ∧ Below w.heap.size w w' := by
  obtain rfl : true = r := Option.some.inj h
  exact known_calls w hL
end Go.Proofs.YtjlchnmpebdggaaDoor.Mo
end
section
-- PRINTED by a driver of print.py
namespace Go.Proofs.YtjlchnmpebdggaaDoor.Mo
open Go.RowKit Go.Proofs.YtjlchnmpebdggaaDoorW.PrintWords Go.Proofs.YtjlchnmpebdggaaDoorW.PrintLast Go.Proofs.YtjlchnmpebdggaaDoorW.PrintMore
attribute [local go_sem] max2_int min2_int max_two min_two max_three min_three max_four min_four   -- for this text's walks alone
set_option linter.unusedVariables false
set_option linter.unusedSimpArgs false
attribute [local go_sem high] eqA23
def postbaglaw2_MomentHeaders.f (k : Nat) (a0 : ByteArray) (a1_0 : Int) (a1_1 : Int) (a1_2 : Int) (a1_3 : Int) (a1_4 : Int) (a1_5 : Int) (a1_6 : Int) (a2 : ByteArray) : Option (Bool) := (postbaglaw2_known.f).bind fun t381 => (if t381 = true then ((postbaglaw2_header.f k a0 a1_0 a1_1 a1_2 a1_3 a1_4 a1_5 a1_6).bind fun t382 => (if t382 = true then ((postbaglaw2_header.f k a2 a1_0 a1_1 a1_2 a1_3 a1_4 a1_5 a1_6).bind fun t383 => (if t383 = true then ((postbaglaw2_header.f k a0 a1_0 a1_1 a1_2 a1_3 a1_4 a1_5 a1_6).bind fun t384 => (some t384)) else (some false))) else (some false))) else (some false))
set_option maxHeartbeats 8000000 in
set_option maxRecDepth 100000 in
theorem postbaglaw2_MomentHeaders.calls (k : Nat) (a0 : ByteArray) (a1_0 : Int) (a1_1 : Int) (a1_2 : Int) (a1_3 : Int) (a1_4 : Int) (a1_5 : Int) (a1_6 : Int) (a2 : ByteArray) (r : Bool) (w : World) (h : postbaglaw2_MomentHeaders.f k a0 a1_0 a1_1 a1_2 a1_3 a1_4 a1_5 a1_6 a2 = some r) (hL_ : Laid w) :
  Calls Tryd.prog 5 #[.string a0, .agg #[.int .i64 a1_0, .int .i64 a1_1, .int .i64 a1_2, .int .i64 a1_3, .int .i64 a1_4, .int .i64 a1_5, .int .i64 a1_6], .string a2] w fun e w' => e = .returned (.bool r) ∧ Below w.heap.size w w' := by
 have HL_ := Aside0.mk hL_
 clear hL_
 have hu23 := Tryd.underlying23
 have HB := Aside0.mk (Below.refl w.heap.size w)
 have H : ((postbaglaw2_known.f).bind fun t381 => (if t381 = true then ((postbaglaw2_header.f k a0 a1_0 a1_1 a1_2 a1_3 a1_4 a1_5 a1_6).bind fun t382 => (if t382 = true then ((postbaglaw2_header.f k a2 a1_0 a1_1 a1_2 a1_3 a1_4 a1_5 a1_6).bind fun t383 => (if t383 = true then ((postbaglaw2_header.f k a0 a1_0 a1_1 a1_2 a1_3 a1_4 a1_5 a1_6).bind fun t384 => (some t384)) else (some false))) else (some false))) else (some false))) = some r := h
 clear h
 replace H := Option.bind_eq_some_iff.mp H
 obtain ⟨t381, A40, H⟩ := H
 replace H : (if t381 = true then ((postbaglaw2_header.f k a0 a1_0 a1_1 a1_2 a1_3 a1_4 a1_5 a1_6).bind fun t382 => (if t382 = true then ((postbaglaw2_header.f k a2 a1_0 a1_1 a1_2 a1_3 a1_4 a1_5 a1_6).bind fun t383 => (if t383 = true then ((postbaglaw2_header.f k a0 a1_0 a1_1 a1_2 a1_3 a1_4 a1_5 a1_6).bind fun t384 => (some t384)) else (some false))) else (some false))) else (some false)) = some r := H
 have A4 := Aside0.mk A40
 clear A40
 refine (Classical.em (t381 = true)).elim (fun c5 => ?p5) (fun c5 => ?n5)
 case' p5 =>
  subst c5
  have H1 : ((postbaglaw2_header.f k a0 a1_0 a1_1 a1_2 a1_3 a1_4 a1_5 a1_6).bind fun t382 => (if t382 = true then ((postbaglaw2_header.f k a2 a1_0 a1_1 a1_2 a1_3 a1_4 a1_5 a1_6).bind fun t383 => (if t383 = true then ((postbaglaw2_header.f k a0 a1_0 a1_1 a1_2 a1_3 a1_4 a1_5 a1_6).bind fun t384 => (some t384)) else (some false))) else (some false))) = some r := by rw [if_pos rfl] at H; exact H
  clear H
  have H := H1
  clear H1
  replace H := Option.bind_eq_some_iff.mp H
  obtain ⟨t382, A60, H⟩ := H
  replace H : (if t382 = true then ((postbaglaw2_header.f k a2 a1_0 a1_1 a1_2 a1_3 a1_4 a1_5 a1_6).bind fun t383 => (if t383 = true then ((postbaglaw2_header.f k a0 a1_0 a1_1 a1_2 a1_3 a1_4 a1_5 a1_6).bind fun t384 => (some t384)) else (some false))) else (some false)) = some r := H
  have A6 := Aside0.mk A60
  clear A60
  refine (Classical.em (t382 = true)).elim (fun c7 => ?p7) (fun c7 => ?n7)
  case' p7 =>
   subst c7
   have H1 : ((postbaglaw2_header.f k a2 a1_0 a1_1 a1_2 a1_3 a1_4 a1_5 a1_6).bind fun t383 => (if t383 = true then ((postbaglaw2_header.f k a0 a1_0 a1_1 a1_2 a1_3 a1_4 a1_5 a1_6).bind fun t384 => (some t384)) else (some false))) = some r := by rw [if_pos rfl] at H; exact H
   clear H
   have H := H1
   clear H1
   replace H := Option.bind_eq_some_iff.mp H
   obtain ⟨t383, A80, H⟩ := H
   replace H : (if t383 = true then ((postbaglaw2_header.f k a0 a1_0 a1_1 a1_2 a1_3 a1_4 a1_5 a1_6).bind fun t384 => (some t384)) else (some false)) = some r := H
   have A8 := Aside0.mk A80
   clear A80
   refine (Classical.em (t383 = true)).elim (fun c9 => ?p9) (fun c9 => ?n9)
   case' p9 =>
    subst c9
    have H1 : ((postbaglaw2_header.f k a0 a1_0 a1_1 a1_2 a1_3 a1_4 a1_5 a1_6).bind fun t384 => (some t384)) = some r := by rw [if_pos rfl] at H; exact H
    clear H
    have H := H1
    clear H1
    replace H := Option.bind_eq_some_iff.mp H
    obtain ⟨t384, A100, H⟩ := H
    replace H : (some t384) = some r := H
    have A10 := Aside0.mk A100
    clear A100
    obtain rfl := Option.some.inj H
    obtain rfl : true = t384 := Option.some.inj (A6.out.symm.trans A10.out)
   case' n9 =>
    replace c9 := Bool.eq_false_iff.mpr c9
    subst c9
    have H1 : (some false) = some r := by rw [if_neg (show ¬ (false = true) by decide)] at H; exact H
    clear H
    have H := H1
    clear H1
    obtain rfl := Option.some.inj H
  case' n7 =>
   replace c7 := Bool.eq_false_iff.mpr c7
   subst c7
   have H1 : (some false) = some r := by rw [if_neg (show ¬ (false = true) by decide)] at H; exact H
   clear H
   have H := H1
   clear H1
   obtain rfl := Option.some.inj H
 case' n5 =>
  replace c5 := Bool.eq_false_iff.mpr c5
  subst c5
  have H1 : (some false) = some r := by rw [if_neg (show ¬ (false = true) by decide)] at H; exact H
  clear H
  have H := H1
  clear H1
  obtain rfl := Option.some.inj H
 all_goals
  go_enter Tryd.func5, Tryd.ntmps5
  go_wp2_with (first | ((with_reducible refine gate_dst (N := 4) rfl ?_); refine box_event ?hg (N := 4) ?hd (cs := #[.int .i64 a1_0, .int .i64 a1_1, .int .i64 a1_2, .int .i64 a1_3, .int .i64 a1_4, .int .i64 a1_5, .int .i64 a1_6]) (t := 23) ?hr ?_; (case hd => rfl); (case hg => rfl); (case hr => first | (go_simp; done) | (go_simp; rfl)); intro gb380 hg w11 hbox hb; have n0_ := Aside0.mk (below_step (by repeat (first | (with_reducible first | exact HB.out | apply below_alloc | apply pw_below_drewN | apply below_drew1 | refine below_set ?_ GW380.out) | exact HB.out)) hb); have n1_ := Aside0.mk (hbox); have n2_ := Aside0.mk ((by rw [hg]; exact (below_size (by repeat (first | (with_reducible first | exact HB.out | apply below_alloc | apply pw_below_drewN | apply below_drew1 | refine below_set ?_ GW380.out) | exact HB.out))) : w.heap.size ≤ gb380)); have n3_ := Aside0.mk ((by rw [hg]; exact (below_size (by repeat (first | (with_reducible first | exact HB.out | apply below_alloc | apply pw_below_drewN | apply below_drew1 | refine below_set ?_ GW380.out) | exact HB.out))) : w.heap.size ≤ gb380)); clear HB; have HB := n0_; have BK380 := n1_; have GW380 := n2_; have GE380 := n3_; clear n0_ n1_ n2_ n3_; clear hb hbox hg) | ((with_reducible refine gate_callee (f := 15) rfl ?_); refine goesL_ (some 7) rfl rfl Tryd.func15 (by kernel_rfl) rfl #[] rfl (by (try simp only [List.map_toArray, List.map_cons, List.map_nil]); first | done | rfl) ?_; (with_reducible refine (postbaglaw2_known.calls  _ _ A4.out (by first | exact laid_below HL_.out (by repeat (first | (with_reducible first | exact HB.out | apply below_alloc | apply pw_below_drewN | apply below_drew1 | refine below_set ?_ GW380.out) | exact HB.out)) | exact laid_drawn HL_.out (by repeat (first | exact Drawn0.refl _ | apply Drawn0.step)))).mono ?_); rintro e w12 ⟨rfl, hb⟩; refine ⟨_, rfl, ?_⟩; have n0_ := Aside0.mk (blk_below (g := gb380) (o := .cells #[.int .i64 a1_0, .int .i64 a1_1, .int .i64 a1_2, .int .i64 a1_3, .int .i64 a1_4, .int .i64 a1_5, .int .i64 a1_6] 23 (0, 0)) (by (with_reducible repeat first | refine blk_drewN ?_ _ | refine blk_alloc ?_ _); exact BK380.out) hb); have n1_ := Aside0.mk (below_step (by repeat (first | (with_reducible first | exact HB.out | apply below_alloc | apply pw_below_drewN | apply below_drew1 | refine below_set ?_ GE380.out) | exact HB.out)) hb); clear BK380; clear HB; have BK380 := n0_; have HB := n1_; clear n0_ n1_; (try clear hb); (try clear hb2); (try clear hk); (try clear hi); have hcz13_0 : w12.cell? ⟨gb380, 0, none⟩ = some (.int .i64 a1_0) := (blk_cell BK380.out 0).trans rfl; have hcz13_1 : w12.cell? ⟨gb380, 1, none⟩ = some (.int .i64 a1_1) := (blk_cell BK380.out 1).trans rfl; have hcz13_2 : w12.cell? ⟨gb380, 2, none⟩ = some (.int .i64 a1_2) := (blk_cell BK380.out 2).trans rfl; have hcz13_3 : w12.cell? ⟨gb380, 3, none⟩ = some (.int .i64 a1_3) := (blk_cell BK380.out 3).trans rfl; have hcz13_4 : w12.cell? ⟨gb380, 4, none⟩ = some (.int .i64 a1_4) := (blk_cell BK380.out 4).trans rfl; have hcz13_5 : w12.cell? ⟨gb380, 5, none⟩ = some (.int .i64 a1_5) := (blk_cell BK380.out 5).trans rfl; have hcz13_6 : w12.cell? ⟨gb380, 6, none⟩ = some (.int .i64 a1_6) := (blk_cell BK380.out 6).trans rfl; have hfz13_0 := blk_frozen BK380.out 0; have hfz13_1 := blk_frozen BK380.out 1; have hfz13_2 := blk_frozen BK380.out 2; have hfz13_3 := blk_frozen BK380.out 3; have hfz13_4 := blk_frozen BK380.out 4; have hfz13_5 := blk_frozen BK380.out 5; have hfz13_6 := blk_frozen BK380.out 6) | (go_at_call 18; (with_reducible refine (postbaglaw2_header.calls k a0 a1_0 a1_1 a1_2 a1_3 a1_4 a1_5 a1_6 _ _ A6.out (by first | exact laid_below HL_.out (by repeat (first | (with_reducible first | exact HB.out | apply below_alloc | apply pw_below_drewN | apply below_drew1 | refine below_set ?_ GW380.out) | exact HB.out)) | exact laid_drawn HL_.out (by repeat (first | exact Drawn0.refl _ | apply Drawn0.step)))).mono ?_); rintro e w14 ⟨rfl, hb⟩; have n0_ := Aside0.mk (blk_below (g := gb380) (o := .cells #[.int .i64 a1_0, .int .i64 a1_1, .int .i64 a1_2, .int .i64 a1_3, .int .i64 a1_4, .int .i64 a1_5, .int .i64 a1_6] 23 (0, 0)) (by (with_reducible repeat first | refine blk_drewN ?_ _ | refine blk_alloc ?_ _); exact BK380.out) hb); have n1_ := Aside0.mk (below_step (by repeat (first | (with_reducible first | exact HB.out | apply below_alloc | apply pw_below_drewN | apply below_drew1 | refine below_set ?_ GE380.out) | exact HB.out)) hb); clear BK380; clear HB; have BK380 := n0_; have HB := n1_; clear n0_ n1_; (try clear hb); (try clear hb2); (try clear hk); (try clear hi); have hcz15_0 : w14.cell? ⟨gb380, 0, none⟩ = some (.int .i64 a1_0) := (blk_cell BK380.out 0).trans rfl; have hcz15_1 : w14.cell? ⟨gb380, 1, none⟩ = some (.int .i64 a1_1) := (blk_cell BK380.out 1).trans rfl; have hcz15_2 : w14.cell? ⟨gb380, 2, none⟩ = some (.int .i64 a1_2) := (blk_cell BK380.out 2).trans rfl; have hcz15_3 : w14.cell? ⟨gb380, 3, none⟩ = some (.int .i64 a1_3) := (blk_cell BK380.out 3).trans rfl; have hcz15_4 : w14.cell? ⟨gb380, 4, none⟩ = some (.int .i64 a1_4) := (blk_cell BK380.out 4).trans rfl; have hcz15_5 : w14.cell? ⟨gb380, 5, none⟩ = some (.int .i64 a1_5) := (blk_cell BK380.out 5).trans rfl; have hcz15_6 : w14.cell? ⟨gb380, 6, none⟩ = some (.int .i64 a1_6) := (blk_cell BK380.out 6).trans rfl; have hfz15_0 := blk_frozen BK380.out 0; have hfz15_1 := blk_frozen BK380.out 1; have hfz15_2 := blk_frozen BK380.out 2; have hfz15_3 := blk_frozen BK380.out 3; have hfz15_4 := blk_frozen BK380.out 4; have hfz15_5 := blk_frozen BK380.out 5; have hfz15_6 := blk_frozen BK380.out 6) | (go_at_call 18; (with_reducible refine (postbaglaw2_header.calls k a2 a1_0 a1_1 a1_2 a1_3 a1_4 a1_5 a1_6 _ _ A8.out (by first | exact laid_below HL_.out (by repeat (first | (with_reducible first | exact HB.out | apply below_alloc | apply pw_below_drewN | apply below_drew1 | refine below_set ?_ GW380.out) | exact HB.out)) | exact laid_drawn HL_.out (by repeat (first | exact Drawn0.refl _ | apply Drawn0.step)))).mono ?_); rintro e w16 ⟨rfl, hb⟩; have n0_ := Aside0.mk (blk_below (g := gb380) (o := .cells #[.int .i64 a1_0, .int .i64 a1_1, .int .i64 a1_2, .int .i64 a1_3, .int .i64 a1_4, .int .i64 a1_5, .int .i64 a1_6] 23 (0, 0)) (by (with_reducible repeat first | refine blk_drewN ?_ _ | refine blk_alloc ?_ _); exact BK380.out) hb); have n1_ := Aside0.mk (below_step (by repeat (first | (with_reducible first | exact HB.out | apply below_alloc | apply pw_below_drewN | apply below_drew1 | refine below_set ?_ GE380.out) | exact HB.out)) hb); clear BK380; clear HB; have BK380 := n0_; have HB := n1_; clear n0_ n1_; (try clear hb); (try clear hb2); (try clear hk); (try clear hi); have hcz17_0 : w16.cell? ⟨gb380, 0, none⟩ = some (.int .i64 a1_0) := (blk_cell BK380.out 0).trans rfl; have hcz17_1 : w16.cell? ⟨gb380, 1, none⟩ = some (.int .i64 a1_1) := (blk_cell BK380.out 1).trans rfl; have hcz17_2 : w16.cell? ⟨gb380, 2, none⟩ = some (.int .i64 a1_2) := (blk_cell BK380.out 2).trans rfl; have hcz17_3 : w16.cell? ⟨gb380, 3, none⟩ = some (.int .i64 a1_3) := (blk_cell BK380.out 3).trans rfl; have hcz17_4 : w16.cell? ⟨gb380, 4, none⟩ = some (.int .i64 a1_4) := (blk_cell BK380.out 4).trans rfl; have hcz17_5 : w16.cell? ⟨gb380, 5, none⟩ = some (.int .i64 a1_5) := (blk_cell BK380.out 5).trans rfl; have hcz17_6 : w16.cell? ⟨gb380, 6, none⟩ = some (.int .i64 a1_6) := (blk_cell BK380.out 6).trans rfl; have hfz17_0 := blk_frozen BK380.out 0; have hfz17_1 := blk_frozen BK380.out 1; have hfz17_2 := blk_frozen BK380.out 2; have hfz17_3 := blk_frozen BK380.out 3; have hfz17_4 := blk_frozen BK380.out 4; have hfz17_5 := blk_frozen BK380.out 5; have hfz17_6 := blk_frozen BK380.out 6) | (go_at_call 18; (with_reducible refine (postbaglaw2_header.calls k a0 a1_0 a1_1 a1_2 a1_3 a1_4 a1_5 a1_6 t384 _ A10.out (by first | exact laid_below HL_.out (by repeat (first | (with_reducible first | exact HB.out | apply below_alloc | apply pw_below_drewN | apply below_drew1 | refine below_set ?_ GW380.out) | exact HB.out)) | exact laid_drawn HL_.out (by repeat (first | exact Drawn0.refl _ | apply Drawn0.step)))).mono ?_); rintro e w18 ⟨rfl, hb⟩; have n0_ := Aside0.mk (blk_below (g := gb380) (o := .cells #[.int .i64 a1_0, .int .i64 a1_1, .int .i64 a1_2, .int .i64 a1_3, .int .i64 a1_4, .int .i64 a1_5, .int .i64 a1_6] 23 (0, 0)) (by (with_reducible repeat first | refine blk_drewN ?_ _ | refine blk_alloc ?_ _); exact BK380.out) hb); have n1_ := Aside0.mk (below_step (by repeat (first | (with_reducible first | exact HB.out | apply below_alloc | apply pw_below_drewN | apply below_drew1 | refine below_set ?_ GE380.out) | exact HB.out)) hb); clear BK380; clear HB; have BK380 := n0_; have HB := n1_; clear n0_ n1_; (try clear hb); (try clear hb2); (try clear hk); (try clear hi)))
  go_ret
  exact ⟨by first | rfl | (simp [errW_none, errW_some] <;> rfl) | (simp [*, errW_none, errW_some] <;> rfl), by repeat (first | (with_reducible first | exact HB.out | apply below_alloc | apply pw_below_drewN | apply below_drew1 | refine below_set ?_ GE380.out) | exact HB.out)⟩
end Go.Proofs.YtjlchnmpebdggaaDoor.Mo
end
section
namespace Go.Proofs.YtjlchnmpebdggaaDoor.Mo
open Go.RowKit Go.Proofs.YtjlchnmpebdggaaDoorW.PrintWords
theorem str_app (l m : List Int) : strOfNums l ++ strOfNums m = strOfNums (l ++ m) := by
  apply ByteArray.ext
  apply Array.toList_inj.1
  rw [ByteArray.data_append, Array.toList_append, strOfNums_data, strOfNums_data, strOfNums_data, List.map_append]
def digP (n : Int) : ByteArray := strOfNums [48 + n]
theorem digP_size (n : Int) : (digP n).size = 1 := rfl
theorem dig_open (n : Int) (h0 : 0 ≤ n) : strOfNums [(wrap64 (48 + (Int.tmod n 10))) % 256] = digP (n % 10) := by
  rw [Int.tmod_eq_emod_of_nonneg h0, w64 (48 + n % 10) (by omega) (by omega), Int.emod_eq_of_lt (by omega) (by omega)]
  rfl
theorem twoP_dig (n : Int) (h0 : 0 ≤ n) (h1 : n ≤ 99) : twoP n = digP (n / 10) ++ digP (n % 10) := by
  unfold twoP digP
  rw [str_app, Int.tmod_eq_emod_of_nonneg h0, Int.tdiv_eq_ediv_of_nonneg h0, w64 (n / 10) (by omega) (by omega), w64 (48 + n / 10) (by omega) (by omega), w64 (48 + n % 10) (by omega) (by omega), Int.emod_eq_of_lt (by omega) (by omega), Int.emod_eq_of_lt (by omega) (by omega)]
  rfl
theorem text_more (k : Nat) (n least : Int) (s : ByteArray) (h0 : 0 ≤ n) (h1 : n ≤ 1000000) (hs : s.size ≤ 1000000) (hm : 0 < n ∨ (s.size : Int) < least) :
    postbagref2_text.l0 (k + 1) n least s = postbagref2_text.l0 k (n / 10) least (digP (n % 10) ++ s) := by
  simp only [postbagref2_text.l0, Option.bind_some]
  rw [dig_open n h0, Int.tdiv_eq_ediv_of_nonneg h0, w64 (n / 10) (by omega) (by omega), digP_size]
  by_cases h : n > 0
  · rw [if_pos h, if_pos (by omega)]
  · rw [if_neg h, if_pos (by omega), if_pos (by omega)]
theorem text_end (k : Nat) (least : Int) (s : ByteArray) (hm : least ≤ (s.size : Int)) : postbagref2_text.l0 (k + 1) 0 least s = some s := by
  simp only [postbagref2_text.l0]
  rw [if_neg (by omega), if_neg (by omega)]
theorem empty_size : (⟨#[]⟩ : ByteArray).size = 0 := rfl
theorem app_empty (s : ByteArray) : s ++ (⟨#[]⟩ : ByteArray) = s := by
  apply ByteArray.ext
  rw [ByteArray.data_append]
  exact Array.append_empty
theorem text_two (k : Nat) (hk : 10 ≤ k) (n : Int) (h0 : 0 ≤ n) (h1 : n ≤ 99) : postbagref2_text.f k n 2 = some (twoP n) := by
  obtain ⟨k, rfl⟩ : ∃ q, k = q + 3 := ⟨k - 3, by omega⟩
  unfold postbagref2_text.f
  have s1 : (digP (n % 10) ++ (⟨#[]⟩ : ByteArray)).size = 1 := by rw [app_empty, digP_size]
  rw [text_more (k + 2) n 2 _ h0 (by omega) (by rw [empty_size]; omega) (.inr (by rw [empty_size]; omega)),
    text_more (k + 1) (n / 10) 2 _ (by omega) (by omega) (by omega) (.inr (by omega)), show n / 10 / 10 = 0 from by omega, show n / 10 % 10 = n / 10 from by omega,
    text_end k 2 _ (by rw [ByteArray.size_append, s1, digP_size]; omega), app_empty, twoP_dig n h0 h1]
theorem text_one (k : Nat) (hk : 10 ≤ k) (n : Int) (h0 : 1 ≤ n) (h1 : n ≤ 99) : postbagref2_text.f k n 1 = some (plainP n) := by
  obtain ⟨k, rfl⟩ : ∃ q, k = q + 3 := ⟨k - 3, by omega⟩
  unfold postbagref2_text.f
  have s1 : (digP (n % 10) ++ (⟨#[]⟩ : ByteArray)).size = 1 := by rw [app_empty, digP_size]
  rw [text_more (k + 2) n 1 _ (by omega) (by omega) (by rw [empty_size]; omega) (.inl (by omega))]
  have hb : bt (twoP n) 0 = 48 + n / 10 := by
    rw [twoP_dig n (by omega) h1]
    unfold digP
    rw [str_app]
    have h9 : n / 10 = 0 ∨ n / 10 = 1 ∨ n / 10 = 2 ∨ n / 10 = 3 ∨ n / 10 = 4 ∨ n / 10 = 5 ∨ n / 10 = 6 ∨ n / 10 = 7 ∨ n / 10 = 8 ∨ n / 10 = 9 := by omega
    rcases h9 with h | h | h | h | h | h | h | h | h | h <;> rw [h] <;> rfl
  unfold plainP
  rw [hb]
  by_cases hn : n / 10 = 0
  · rw [hn, text_end (k + 1) 1 _ (by rw [s1]; omega), if_pos (by omega), app_empty, twoP_dig n (by omega) h1]
    congr 1
  · rw [text_more (k + 1) (n / 10) 1 _ (by omega) (by omega) (by omega) (.inl (by omega)), show n / 10 / 10 = 0 from by omega, show n / 10 % 10 = n / 10 from by omega,
      text_end k 1 _ (by rw [ByteArray.size_append, s1, digP_size]; omega), if_neg (by omega), app_empty, twoP_dig n (by omega) h1]
theorem text_four (k : Nat) (hk : 10 ≤ k) (n : Int) (h0 : 0 ≤ n) (h1 : n ≤ 9999) : postbagref2_text.f k n 4 = some (fourP n) := by
  obtain ⟨k, rfl⟩ : ∃ q, k = q + 5 := ⟨k - 5, by omega⟩
  unfold postbagref2_text.f
  have s1 : (digP (n % 10) ++ (⟨#[]⟩ : ByteArray)).size = 1 := by rw [app_empty, digP_size]
  have s2 : (digP (n / 10 % 10) ++ (digP (n % 10) ++ (⟨#[]⟩ : ByteArray))).size = 2 := by rw [ByteArray.size_append, s1, digP_size]
  have s3 : (digP (n / 10 / 10 % 10) ++ (digP (n / 10 % 10) ++ (digP (n % 10) ++ (⟨#[]⟩ : ByteArray)))).size = 3 := by rw [ByteArray.size_append, s2, digP_size]
  rw [text_more (k + 4) n 4 _ h0 (by omega) (by rw [empty_size]; omega) (.inr (by rw [empty_size]; omega)),
    text_more (k + 3) (n / 10) 4 _ (by omega) (by omega) (by omega) (.inr (by omega)),
    text_more (k + 2) (n / 10 / 10) 4 _ (by omega) (by omega) (by omega) (.inr (by omega)),
    text_more (k + 1) (n / 10 / 10 / 10) 4 _ (by omega) (by omega) (by omega) (.inr (by omega)),
    show n / 10 / 10 / 10 / 10 = 0 from by omega, text_end k 4 _ (by rw [ByteArray.size_append, s3, digP_size]; omega), app_empty]
  unfold fourP
  rw [Int.tdiv_eq_ediv_of_nonneg h0, Int.tmod_eq_emod_of_nonneg h0, w64 (n / 100) (by omega) (by omega), twoP_dig (n / 100) (by omega) (by omega), twoP_dig (n % 100) (by omega) (by omega),
    show n / 100 / 10 = n / 10 / 10 / 10 % 10 from by omega, show n / 100 % 10 = n / 10 / 10 % 10 from by omega, show n % 100 / 10 = n / 10 % 10 from by omega, show n % 100 % 10 = n % 10 from by omega]
  simp only [ByteArray.append_assoc]
def largeM : ByteArray := ⟨#[74, 97, 110, 70, 101, 98, 77, 97, 114, 65, 112, 114, 77, 97, 121, 74, 117, 110, 74, 117, 108, 65, 117, 103, 83, 101, 112, 79, 99, 116, 78, 111, 118, 68, 101, 99]⟩
theorem large_month (m : Int) (h1 : 1 ≤ m) (h2 : m ≤ 12) : largeM.extract ((wrap64 ((wrap64 (3 * m)) - 3)) : Int).toNat ((wrap64 (3 * m)) : Int).toNat = monthL.getD (m - 1).toNat ⟨#[]⟩ := by
  rw [w64 (3 * m) (by omega) (by omega), w64 (3 * m - 3) (by omega) (by omega)]
  rcases month_cases h1 h2 with rfl | rfl | rfl | rfl | rfl | rfl | rfl | rfl | rfl | rfl | rfl | rfl <;> (apply ByteArray.ext; apply Array.toList_inj.1; rfl)
theorem month_getD_size (m : Int) (h1 : 1 ≤ m) (h2 : m ≤ 12) : (monthL.getD (m - 1).toNat ⟨#[]⟩).size = 3 := month_size _ (by omega)
end Go.Proofs.YtjlchnmpebdggaaDoor.Mo
end
