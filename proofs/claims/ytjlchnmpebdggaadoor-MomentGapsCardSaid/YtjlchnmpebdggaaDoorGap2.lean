import Derived.Test.YtjlchnmpebdggaaDoorGap1
import Derived.Lib.Hide
import Derived.IntWalk
import Derived.Deep.RegionHeld3
section
namespace Go.Proofs.YtjlchnmpebdggaaDoor.Mo
open Go.RowKit Go.Proofs.YtjlchnmpebdggaaDoorW.PrintWords Go.Proofs.YtjlchnmpebdggaaDoorW.PrintLast Go.Proofs.YtjlchnmpebdggaaDoorW.PrintMore
attribute [local go_sem] max2_int min2_int max_two min_two max_three min_three max_four min_four   -- for this text's walks alone
set_option linter.unusedVariables false
set_option linter.unusedSimpArgs false
def moment_isDay.f (a0_0 : Int) (a0_1 : Int) (a0_2 : Int) (a0_3 : Int) (a0_4 : Int) (a0_5 : Int) (a0_6 : Int) : Option (Bool) := if a0_0 < 1 then (some false) else (if a0_0 > 9999 then (some false) else (if a0_1 < 1 then (some false) else (if a0_1 > 12 then (some false) else (if a0_2 ≥ 1 then ((moment_length.f a0_0 a0_1).bind fun t102 => (some (decide (a0_2 ≤ t102)))) else (some false)))))
set_option maxHeartbeats 8000000 in
set_option maxRecDepth 100000 in
theorem moment_isDay.calls (a0_0 : Int) (a0_1 : Int) (a0_2 : Int) (a0_3 : Int) (a0_4 : Int) (a0_5 : Int) (a0_6 : Int) (r : Bool) (w : World) (h : moment_isDay.f a0_0 a0_1 a0_2 a0_3 a0_4 a0_5 a0_6 = some r) (hL_ : Laid w) :
  Calls Tryd.prog 46 #[.agg #[.int .i64 a0_0, .int .i64 a0_1, .int .i64 a0_2, .int .i64 a0_3, .int .i64 a0_4, .int .i64 a0_5, .int .i64 a0_6]] w fun e w' => e = .returned (.bool r) ∧ Below w.heap.size w w' := by
 have HL_ := Aside0.mk hL_
 clear hL_
 have hu23 := Tryd.underlying23
 have HB := Aside0.mk (Below.refl w.heap.size w)
 have H : (if a0_0 < 1 then (some false) else (if a0_0 > 9999 then (some false) else (if a0_1 < 1 then (some false) else (if a0_1 > 12 then (some false) else (if a0_2 ≥ 1 then ((moment_length.f a0_0 a0_1).bind fun t102 => (some (decide (a0_2 ≤ t102)))) else (some false)))))) = some r := h
 clear h
 refine (Classical.em (a0_0 < 1)).elim (fun c2 => ?p2) (fun c2 => ?n2)
 case' p2 =>
  rw [if_pos c2] at H
  have c2b0 : decide (a0_0 < 1) = true := decide_eq_true c2
  clear c2
  obtain rfl := Option.some.inj H
 case' n2 =>
  rw [if_neg c2] at H
  have c2b0 : decide (a0_0 < 1) = false := decide_eq_false c2
  clear c2
  refine (Classical.em (a0_0 > 9999)).elim (fun c5 => ?p5) (fun c5 => ?n5)
  case' p5 =>
   rw [if_pos c5] at H
   have c5b0 : decide (9999 < a0_0) = true := decide_eq_true c5
   clear c5
   obtain rfl := Option.some.inj H
  case' n5 =>
   rw [if_neg c5] at H
   have c5b0 : decide (9999 < a0_0) = false := decide_eq_false c5
   clear c5
   refine (Classical.em (a0_1 < 1)).elim (fun c8 => ?p8) (fun c8 => ?n8)
   case' p8 =>
    rw [if_pos c8] at H
    have c8b0 : decide (a0_1 < 1) = true := decide_eq_true c8
    clear c8
    obtain rfl := Option.some.inj H
   case' n8 =>
    rw [if_neg c8] at H
    have c8b0 : decide (a0_1 < 1) = false := decide_eq_false c8
    clear c8
    refine (Classical.em (a0_1 > 12)).elim (fun c11 => ?p11) (fun c11 => ?n11)
    case' p11 =>
     rw [if_pos c11] at H
     have c11b0 : decide (12 < a0_1) = true := decide_eq_true c11
     clear c11
     obtain rfl := Option.some.inj H
    case' n11 =>
     rw [if_neg c11] at H
     have c11b0 : decide (12 < a0_1) = false := decide_eq_false c11
     clear c11
     refine (Classical.em (a0_2 ≥ 1)).elim (fun c14 => ?p14) (fun c14 => ?n14)
     case' p14 =>
      rw [if_pos c14] at H
      have c14b0 : decide (1 ≤ a0_2) = true := decide_eq_true c14
      clear c14
      replace H := Option.bind_eq_some_iff.mp H
      obtain ⟨t102, A150, H⟩ := H
      replace H : (some (decide (a0_2 ≤ t102))) = some r := H
      have A15 := Aside0.mk A150
      clear A150
      obtain rfl := Option.some.inj H
     case' n14 =>
      rw [if_neg c14] at H
      have c14b0 : decide (1 ≤ a0_2) = false := decide_eq_false c14
      clear c14
      obtain rfl := Option.some.inj H
 all_goals
  go_enter Tryd.func46, Tryd.ntmps46
  go_wp2_with (first | ((with_reducible refine gate_dst (N := 1) rfl ?_); refine box_event ?hg (N := 1) ?hd (cs := #[.int .i64 a0_0, .int .i64 a0_1, .int .i64 a0_2, .int .i64 a0_3, .int .i64 a0_4, .int .i64 a0_5, .int .i64 a0_6]) (t := 23) ?hr ?_; (case hd => rfl); (case hg => rfl); (case hr => first | (go_simp; done) | (go_simp; rfl)); intro gb101 hg w16 hbox hb; have n0_ := Aside0.mk (below_step (by repeat (first | (with_reducible first | exact HB.out | apply below_alloc | apply pw_below_drewN | apply below_drew1) | exact HB.out)) hb); have n1_ := Aside0.mk (hbox); have n2_ := Aside0.mk ((by rw [hg]; exact (below_size (by repeat (first | (with_reducible first | exact HB.out | apply below_alloc | apply pw_below_drewN | apply below_drew1) | exact HB.out))) : w.heap.size ≤ gb101)); have n3_ := Aside0.mk ((by rw [hg]; exact (below_size (by repeat (first | (with_reducible first | exact HB.out | apply below_alloc | apply pw_below_drewN | apply below_drew1) | exact HB.out))) : w.heap.size ≤ gb101)); clear HB; have HB := n0_; have BK101 := n1_; have GW101 := n2_; have GE101 := n3_; clear n0_ n1_ n2_ n3_; clear hb hbox hg; have hcz17_0 : w16.cell? ⟨gb101, 0, none⟩ = some (.int .i64 a0_0) := (blk_cell BK101.out 0).trans rfl; have hcz17_1 : w16.cell? ⟨gb101, 1, none⟩ = some (.int .i64 a0_1) := (blk_cell BK101.out 1).trans rfl; have hcz17_2 : w16.cell? ⟨gb101, 2, none⟩ = some (.int .i64 a0_2) := (blk_cell BK101.out 2).trans rfl; have hcz17_3 : w16.cell? ⟨gb101, 3, none⟩ = some (.int .i64 a0_3) := (blk_cell BK101.out 3).trans rfl; have hcz17_4 : w16.cell? ⟨gb101, 4, none⟩ = some (.int .i64 a0_4) := (blk_cell BK101.out 4).trans rfl; have hcz17_5 : w16.cell? ⟨gb101, 5, none⟩ = some (.int .i64 a0_5) := (blk_cell BK101.out 5).trans rfl; have hcz17_6 : w16.cell? ⟨gb101, 6, none⟩ = some (.int .i64 a0_6) := (blk_cell BK101.out 6).trans rfl; have hfz17_0 := blk_frozen BK101.out 0; have hfz17_1 := blk_frozen BK101.out 1; have hfz17_2 := blk_frozen BK101.out 2; have hfz17_3 := blk_frozen BK101.out 3; have hfz17_4 := blk_frozen BK101.out 4; have hfz17_5 := blk_frozen BK101.out 5; have hfz17_6 := blk_frozen BK101.out 6) | (go_at_call 47; (with_reducible refine (moment_length.calls a0_0 a0_1 t102 _ A15.out (by first | exact laid_below HL_.out (by repeat (first | (with_reducible first | exact HB.out | apply below_alloc | apply pw_below_drewN | apply below_drew1) | exact HB.out)) | exact laid_drawn HL_.out (by repeat (first | exact Drawn0.refl _ | apply Drawn0.step)))).mono ?_); rintro e w' ⟨rfl, ⟨nd, rfl⟩⟩; (try first | exact ⟨rfl, _, World.drewN_drewN _ _ _⟩ | exact ⟨rfl, _, Eq.trans (World.drewN_drewN _ _ _) (congrArg (World.drewN _) (Nat.add_assoc _ _ _))⟩)))
  repeat (go_quiet (first | ((with_reducible refine gate_dst (N := 1) rfl ?_); refine box_event ?hg (N := 1) ?hd (cs := #[.int .i64 a0_0, .int .i64 a0_1, .int .i64 a0_2, .int .i64 a0_3, .int .i64 a0_4, .int .i64 a0_5, .int .i64 a0_6]) (t := 23) ?hr ?_; (case hd => rfl); (case hg => rfl); (case hr => first | (go_simp; done) | (go_simp; rfl)); intro gb101 hg w16 hbox hb; have n0_ := Aside0.mk (below_step (by repeat (first | (with_reducible first | exact HB.out | apply below_alloc | apply pw_below_drewN | apply below_drew1) | exact HB.out)) hb); have n1_ := Aside0.mk (hbox); have n2_ := Aside0.mk ((by rw [hg]; exact (below_size (by repeat (first | (with_reducible first | exact HB.out | apply below_alloc | apply pw_below_drewN | apply below_drew1) | exact HB.out))) : w.heap.size ≤ gb101)); have n3_ := Aside0.mk ((by rw [hg]; exact (below_size (by repeat (first | (with_reducible first | exact HB.out | apply below_alloc | apply pw_below_drewN | apply below_drew1) | exact HB.out))) : w.heap.size ≤ gb101)); clear HB; have HB := n0_; have BK101 := n1_; have GW101 := n2_; have GE101 := n3_; clear n0_ n1_ n2_ n3_; clear hb hbox hg; have hcz17_0 : w16.cell? ⟨gb101, 0, none⟩ = some (.int .i64 a0_0) := (blk_cell BK101.out 0).trans rfl; have hcz17_1 : w16.cell? ⟨gb101, 1, none⟩ = some (.int .i64 a0_1) := (blk_cell BK101.out 1).trans rfl; have hcz17_2 : w16.cell? ⟨gb101, 2, none⟩ = some (.int .i64 a0_2) := (blk_cell BK101.out 2).trans rfl; have hcz17_3 : w16.cell? ⟨gb101, 3, none⟩ = some (.int .i64 a0_3) := (blk_cell BK101.out 3).trans rfl; have hcz17_4 : w16.cell? ⟨gb101, 4, none⟩ = some (.int .i64 a0_4) := (blk_cell BK101.out 4).trans rfl; have hcz17_5 : w16.cell? ⟨gb101, 5, none⟩ = some (.int .i64 a0_5) := (blk_cell BK101.out 5).trans rfl; have hcz17_6 : w16.cell? ⟨gb101, 6, none⟩ = some (.int .i64 a0_6) := (blk_cell BK101.out 6).trans rfl; have hfz17_0 := blk_frozen BK101.out 0; have hfz17_1 := blk_frozen BK101.out 1; have hfz17_2 := blk_frozen BK101.out 2; have hfz17_3 := blk_frozen BK101.out 3; have hfz17_4 := blk_frozen BK101.out 4; have hfz17_5 := blk_frozen BK101.out 5; have hfz17_6 := blk_frozen BK101.out 6) | (go_at_call 47; (with_reducible refine (moment_length.calls a0_0 a0_1 t102 _ A15.out (by first | exact laid_below HL_.out (by repeat (first | (with_reducible first | exact HB.out | apply below_alloc | apply pw_below_drewN | apply below_drew1) | exact HB.out)) | exact laid_drawn HL_.out (by repeat (first | exact Drawn0.refl _ | apply Drawn0.step)))).mono ?_); rintro e w' ⟨rfl, ⟨nd, rfl⟩⟩; (try first | exact ⟨rfl, _, World.drewN_drewN _ _ _⟩ | exact ⟨rfl, _, Eq.trans (World.drewN_drewN _ _ _) (congrArg (World.drewN _) (Nat.add_assoc _ _ _))⟩))); try go_wp2_with (first | ((with_reducible refine gate_dst (N := 1) rfl ?_); refine box_event ?hg (N := 1) ?hd (cs := #[.int .i64 a0_0, .int .i64 a0_1, .int .i64 a0_2, .int .i64 a0_3, .int .i64 a0_4, .int .i64 a0_5, .int .i64 a0_6]) (t := 23) ?hr ?_; (case hd => rfl); (case hg => rfl); (case hr => first | (go_simp; done) | (go_simp; rfl)); intro gb101 hg w16 hbox hb; have n0_ := Aside0.mk (below_step (by repeat (first | (with_reducible first | exact HB.out | apply below_alloc | apply pw_below_drewN | apply below_drew1) | exact HB.out)) hb); have n1_ := Aside0.mk (hbox); have n2_ := Aside0.mk ((by rw [hg]; exact (below_size (by repeat (first | (with_reducible first | exact HB.out | apply below_alloc | apply pw_below_drewN | apply below_drew1) | exact HB.out))) : w.heap.size ≤ gb101)); have n3_ := Aside0.mk ((by rw [hg]; exact (below_size (by repeat (first | (with_reducible first | exact HB.out | apply below_alloc | apply pw_below_drewN | apply below_drew1) | exact HB.out))) : w.heap.size ≤ gb101)); clear HB; have HB := n0_; have BK101 := n1_; have GW101 := n2_; have GE101 := n3_; clear n0_ n1_ n2_ n3_; clear hb hbox hg; have hcz17_0 : w16.cell? ⟨gb101, 0, none⟩ = some (.int .i64 a0_0) := (blk_cell BK101.out 0).trans rfl; have hcz17_1 : w16.cell? ⟨gb101, 1, none⟩ = some (.int .i64 a0_1) := (blk_cell BK101.out 1).trans rfl; have hcz17_2 : w16.cell? ⟨gb101, 2, none⟩ = some (.int .i64 a0_2) := (blk_cell BK101.out 2).trans rfl; have hcz17_3 : w16.cell? ⟨gb101, 3, none⟩ = some (.int .i64 a0_3) := (blk_cell BK101.out 3).trans rfl; have hcz17_4 : w16.cell? ⟨gb101, 4, none⟩ = some (.int .i64 a0_4) := (blk_cell BK101.out 4).trans rfl; have hcz17_5 : w16.cell? ⟨gb101, 5, none⟩ = some (.int .i64 a0_5) := (blk_cell BK101.out 5).trans rfl; have hcz17_6 : w16.cell? ⟨gb101, 6, none⟩ = some (.int .i64 a0_6) := (blk_cell BK101.out 6).trans rfl; have hfz17_0 := blk_frozen BK101.out 0; have hfz17_1 := blk_frozen BK101.out 1; have hfz17_2 := blk_frozen BK101.out 2; have hfz17_3 := blk_frozen BK101.out 3; have hfz17_4 := blk_frozen BK101.out 4; have hfz17_5 := blk_frozen BK101.out 5; have hfz17_6 := blk_frozen BK101.out 6) | (go_at_call 47; (with_reducible refine (moment_length.calls a0_0 a0_1 t102 _ A15.out (by first | exact laid_below HL_.out (by repeat (first | (with_reducible first | exact HB.out | apply below_alloc | apply pw_below_drewN | apply below_drew1) | exact HB.out)) | exact laid_drawn HL_.out (by repeat (first | exact Drawn0.refl _ | apply Drawn0.step)))).mono ?_); rintro e w' ⟨rfl, ⟨nd, rfl⟩⟩; (try first | exact ⟨rfl, _, World.drewN_drewN _ _ _⟩ | exact ⟨rfl, _, Eq.trans (World.drewN_drewN _ _ _) (congrArg (World.drewN _) (Nat.add_assoc _ _ _))⟩))))
  go_ret
  exact ⟨by first | rfl | (simp [errW_none, errW_some] <;> rfl) | (simp [*, errW_none, errW_some] <;> rfl), by repeat (first | (with_reducible first | exact HB.out | apply below_alloc | apply pw_below_drewN | apply below_drew1 | refine below_set ?_ GE101.out) | exact HB.out)⟩
def moment_Valid.f (a0_0 : Int) (a0_1 : Int) (a0_2 : Int) (a0_3 : Int) (a0_4 : Int) (a0_5 : Int) (a0_6 : Int) : Option (Bool) := (moment_isDay.f a0_0 a0_1 a0_2 a0_3 a0_4 a0_5 a0_6).bind fun t104 => (if t104 = true then (if a0_3 < 0 then (some false) else (if a0_3 > 23 then (some false) else (if a0_4 < 0 then (some false) else (if a0_4 > 59 then (some false) else (if a0_5 < 0 then (some false) else (if a0_5 > 59 then (some false) else (if a0_6 ≥ (-1439) then (some (decide (a0_6 ≤ 1439))) else (some false)))))))) else (some false))
set_option maxHeartbeats 8000000 in
set_option maxRecDepth 100000 in
theorem moment_Valid.calls (a0_0 : Int) (a0_1 : Int) (a0_2 : Int) (a0_3 : Int) (a0_4 : Int) (a0_5 : Int) (a0_6 : Int) (r : Bool) (w : World) (h : moment_Valid.f a0_0 a0_1 a0_2 a0_3 a0_4 a0_5 a0_6 = some r) (hL_ : Laid w) :
  Calls Tryd.prog 19 #[.agg #[.int .i64 a0_0, .int .i64 a0_1, .int .i64 a0_2, .int .i64 a0_3, .int .i64 a0_4, .int .i64 a0_5, .int .i64 a0_6]] w fun e w' => e = .returned (.bool r) ∧ Below w.heap.size w w' := by
 have HL_ := Aside0.mk hL_
 clear hL_
 have hu23 := Tryd.underlying23
 have HB := Aside0.mk (Below.refl w.heap.size w)
 have H : ((moment_isDay.f a0_0 a0_1 a0_2 a0_3 a0_4 a0_5 a0_6).bind fun t104 => (if t104 = true then (if a0_3 < 0 then (some false) else (if a0_3 > 23 then (some false) else (if a0_4 < 0 then (some false) else (if a0_4 > 59 then (some false) else (if a0_5 < 0 then (some false) else (if a0_5 > 59 then (some false) else (if a0_6 ≥ (-1439) then (some (decide (a0_6 ≤ 1439))) else (some false)))))))) else (some false))) = some r := h
 clear h
 replace H := Option.bind_eq_some_iff.mp H
 obtain ⟨t104, A20, H⟩ := H
 replace H : (if t104 = true then (if a0_3 < 0 then (some false) else (if a0_3 > 23 then (some false) else (if a0_4 < 0 then (some false) else (if a0_4 > 59 then (some false) else (if a0_5 < 0 then (some false) else (if a0_5 > 59 then (some false) else (if a0_6 ≥ (-1439) then (some (decide (a0_6 ≤ 1439))) else (some false)))))))) else (some false)) = some r := H
 have A2 := Aside0.mk A20
 clear A20
 refine (Classical.em (t104 = true)).elim (fun c3 => ?p3) (fun c3 => ?n3)
 case' p3 =>
  subst c3
  have H1 : (if a0_3 < 0 then (some false) else (if a0_3 > 23 then (some false) else (if a0_4 < 0 then (some false) else (if a0_4 > 59 then (some false) else (if a0_5 < 0 then (some false) else (if a0_5 > 59 then (some false) else (if a0_6 ≥ (-1439) then (some (decide (a0_6 ≤ 1439))) else (some false)))))))) = some r := by rw [if_pos rfl] at H; exact H
  clear H
  have H := H1
  clear H1
  refine (Classical.em (a0_3 < 0)).elim (fun c4 => ?p4) (fun c4 => ?n4)
  case' p4 =>
   rw [if_pos c4] at H
   have c4b0 : decide (a0_3 < 0) = true := decide_eq_true c4
   clear c4
   obtain rfl := Option.some.inj H
  case' n4 =>
   rw [if_neg c4] at H
   have c4b0 : decide (a0_3 < 0) = false := decide_eq_false c4
   clear c4
   refine (Classical.em (a0_3 > 23)).elim (fun c9 => ?p9) (fun c9 => ?n9)
   case' p9 =>
    rw [if_pos c9] at H
    have c9b0 : decide (23 < a0_3) = true := decide_eq_true c9
    clear c9
    obtain rfl := Option.some.inj H
   case' n9 =>
    rw [if_neg c9] at H
    have c9b0 : decide (23 < a0_3) = false := decide_eq_false c9
    clear c9
    refine (Classical.em (a0_4 < 0)).elim (fun c14 => ?p14) (fun c14 => ?n14)
    case' p14 =>
     rw [if_pos c14] at H
     have c14b0 : decide (a0_4 < 0) = true := decide_eq_true c14
     clear c14
     obtain rfl := Option.some.inj H
    case' n14 =>
     rw [if_neg c14] at H
     have c14b0 : decide (a0_4 < 0) = false := decide_eq_false c14
     clear c14
     refine (Classical.em (a0_4 > 59)).elim (fun c19 => ?p19) (fun c19 => ?n19)
     case' p19 =>
      rw [if_pos c19] at H
      have c19b0 : decide (59 < a0_4) = true := decide_eq_true c19
      clear c19
      obtain rfl := Option.some.inj H
     case' n19 =>
      rw [if_neg c19] at H
      have c19b0 : decide (59 < a0_4) = false := decide_eq_false c19
      clear c19
      refine (Classical.em (a0_5 < 0)).elim (fun c24 => ?p24) (fun c24 => ?n24)
      case' p24 =>
       rw [if_pos c24] at H
       have c24b0 : decide (a0_5 < 0) = true := decide_eq_true c24
       clear c24
       obtain rfl := Option.some.inj H
      case' n24 =>
       rw [if_neg c24] at H
       have c24b0 : decide (a0_5 < 0) = false := decide_eq_false c24
       clear c24
       refine (Classical.em (a0_5 > 59)).elim (fun c29 => ?p29) (fun c29 => ?n29)
       case' p29 =>
        rw [if_pos c29] at H
        have c29b0 : decide (59 < a0_5) = true := decide_eq_true c29
        clear c29
        obtain rfl := Option.some.inj H
       case' n29 =>
        rw [if_neg c29] at H
        have c29b0 : decide (59 < a0_5) = false := decide_eq_false c29
        clear c29
        refine (Classical.em (a0_6 ≥ (-1439))).elim (fun c34 => ?p34) (fun c34 => ?n34)
        case' p34 =>
         rw [if_pos c34] at H
         have c34b0 : decide ((-1439) ≤ a0_6) = true := decide_eq_true c34
         clear c34
         obtain rfl := Option.some.inj H
        case' n34 =>
         rw [if_neg c34] at H
         have c34b0 : decide ((-1439) ≤ a0_6) = false := decide_eq_false c34
         clear c34
         obtain rfl := Option.some.inj H
 case' n3 =>
  replace c3 := Bool.eq_false_iff.mpr c3
  subst c3
  have H1 : (some false) = some r := by rw [if_neg (show ¬ (false = true) by decide)] at H; exact H
  clear H
  have H := H1
  clear H1
  obtain rfl := Option.some.inj H
 all_goals
  go_enter Tryd.func19, Tryd.ntmps19
  go_wp2_with (first | ((with_reducible refine gate_dst (N := 1) rfl ?_); refine box_event ?hg (N := 1) ?hd (cs := #[.int .i64 a0_0, .int .i64 a0_1, .int .i64 a0_2, .int .i64 a0_3, .int .i64 a0_4, .int .i64 a0_5, .int .i64 a0_6]) (t := 23) ?hr ?_; (case hd => rfl); (case hg => rfl); (case hr => first | (go_simp; done) | (go_simp; rfl)); intro gb103 hg w10 hbox hb; have n0_ := Aside0.mk (below_step (by repeat (first | (with_reducible first | exact HB.out | apply below_alloc | apply pw_below_drewN | apply below_drew1) | exact HB.out)) hb); have n1_ := Aside0.mk (hbox); have n2_ := Aside0.mk ((by rw [hg]; exact (below_size (by repeat (first | (with_reducible first | exact HB.out | apply below_alloc | apply pw_below_drewN | apply below_drew1) | exact HB.out))) : w.heap.size ≤ gb103)); have n3_ := Aside0.mk ((by rw [hg]; exact (below_size (by repeat (first | (with_reducible first | exact HB.out | apply below_alloc | apply pw_below_drewN | apply below_drew1) | exact HB.out))) : w.heap.size ≤ gb103)); clear HB; have HB := n0_; have BK103 := n1_; have GW103 := n2_; have GE103 := n3_; clear n0_ n1_ n2_ n3_; clear hb hbox hg; have hcz11_0 : w10.cell? ⟨gb103, 0, none⟩ = some (.int .i64 a0_0) := (blk_cell BK103.out 0).trans rfl; have hcz11_1 : w10.cell? ⟨gb103, 1, none⟩ = some (.int .i64 a0_1) := (blk_cell BK103.out 1).trans rfl; have hcz11_2 : w10.cell? ⟨gb103, 2, none⟩ = some (.int .i64 a0_2) := (blk_cell BK103.out 2).trans rfl; have hcz11_3 : w10.cell? ⟨gb103, 3, none⟩ = some (.int .i64 a0_3) := (blk_cell BK103.out 3).trans rfl; have hcz11_4 : w10.cell? ⟨gb103, 4, none⟩ = some (.int .i64 a0_4) := (blk_cell BK103.out 4).trans rfl; have hcz11_5 : w10.cell? ⟨gb103, 5, none⟩ = some (.int .i64 a0_5) := (blk_cell BK103.out 5).trans rfl; have hcz11_6 : w10.cell? ⟨gb103, 6, none⟩ = some (.int .i64 a0_6) := (blk_cell BK103.out 6).trans rfl; have hfz11_0 := blk_frozen BK103.out 0; have hfz11_1 := blk_frozen BK103.out 1; have hfz11_2 := blk_frozen BK103.out 2; have hfz11_3 := blk_frozen BK103.out 3; have hfz11_4 := blk_frozen BK103.out 4; have hfz11_5 := blk_frozen BK103.out 5; have hfz11_6 := blk_frozen BK103.out 6) | ((with_reducible refine gate_callee (f := 46) rfl ?_); refine goesL_ (some 4) rfl rfl Tryd.func46 (by kernel_rfl) rfl #[.agg #[.int .i64 a0_0, .int .i64 a0_1, .int .i64 a0_2, .int .i64 a0_3, .int .i64 a0_4, .int .i64 a0_5, .int .i64 a0_6]] rfl (by (try simp only [List.map_toArray, List.map_cons, List.map_nil]); first | done | rfl) ?_; (with_reducible refine (moment_isDay.calls a0_0 a0_1 a0_2 a0_3 a0_4 a0_5 a0_6 _ _ A2.out (by first | exact laid_below HL_.out (by repeat (first | (with_reducible first | exact HB.out | apply below_alloc | apply pw_below_drewN | apply below_drew1) | exact HB.out)) | exact laid_drawn HL_.out (by repeat (first | exact Drawn0.refl _ | apply Drawn0.step)))).mono ?_); rintro e w12 ⟨rfl, hb⟩; refine ⟨_, rfl, ?_⟩; have n0_ := Aside0.mk (blk_below (g := gb103) (o := .cells #[.int .i64 a0_0, .int .i64 a0_1, .int .i64 a0_2, .int .i64 a0_3, .int .i64 a0_4, .int .i64 a0_5, .int .i64 a0_6] 23 (0, 0)) (by (with_reducible repeat first | refine blk_drewN ?_ _ | refine blk_alloc ?_ _); exact BK103.out) hb); have n1_ := Aside0.mk (below_step (by repeat (first | (with_reducible first | exact HB.out | apply below_alloc | apply pw_below_drewN | apply below_drew1 | refine below_set ?_ GE103.out) | exact HB.out)) hb); clear BK103; clear HB; have BK103 := n0_; have HB := n1_; clear n0_ n1_; (try clear hb); (try clear hb2); (try clear hk); (try clear hi); have hcz13_0 : w12.cell? ⟨gb103, 0, none⟩ = some (.int .i64 a0_0) := (blk_cell BK103.out 0).trans rfl; have hcz13_1 : w12.cell? ⟨gb103, 1, none⟩ = some (.int .i64 a0_1) := (blk_cell BK103.out 1).trans rfl; have hcz13_2 : w12.cell? ⟨gb103, 2, none⟩ = some (.int .i64 a0_2) := (blk_cell BK103.out 2).trans rfl; have hcz13_3 : w12.cell? ⟨gb103, 3, none⟩ = some (.int .i64 a0_3) := (blk_cell BK103.out 3).trans rfl; have hcz13_4 : w12.cell? ⟨gb103, 4, none⟩ = some (.int .i64 a0_4) := (blk_cell BK103.out 4).trans rfl; have hcz13_5 : w12.cell? ⟨gb103, 5, none⟩ = some (.int .i64 a0_5) := (blk_cell BK103.out 5).trans rfl; have hcz13_6 : w12.cell? ⟨gb103, 6, none⟩ = some (.int .i64 a0_6) := (blk_cell BK103.out 6).trans rfl; have hfz13_0 := blk_frozen BK103.out 0; have hfz13_1 := blk_frozen BK103.out 1; have hfz13_2 := blk_frozen BK103.out 2; have hfz13_3 := blk_frozen BK103.out 3; have hfz13_4 := blk_frozen BK103.out 4; have hfz13_5 := blk_frozen BK103.out 5; have hfz13_6 := blk_frozen BK103.out 6))
  go_ret
  exact ⟨by first | rfl | (simp [errW_none, errW_some] <;> rfl) | (simp [*, errW_none, errW_some] <;> rfl), by repeat (first | (with_reducible first | exact HB.out | apply below_alloc | apply pw_below_drewN | apply below_drew1 | refine below_set ?_ GE103.out) | exact HB.out)⟩
def moment_Days.l0 : Nat → Int → Int → Int → Int → Int → Int → Int → Int → Int → Option (Int)
 | 0, _, _, _, _, _, _, _, _, _ => none
 | k + 1, x4, x5, x106000, x106001, x106002, x106003, x106004, x106005, x106006 => if x5 < x106001 then ((moment_length.f x106000 x5).bind fun t107 => (moment_Days.l0 k (wrap64 (x4 + t107)) (wrap64 (x5 + 1)) x106000 x106001 x106002 x106003 x106004 x106005 x106006)) else (some (wrap64 (x4 - 719162)))
def moment_Days.f (k : Nat) (a0_0 : Int) (a0_1 : Int) (a0_2 : Int) (a0_3 : Int) (a0_4 : Int) (a0_5 : Int) (a0_6 : Int) : Option (Int) := (moment_Valid.f a0_0 a0_1 a0_2 a0_3 a0_4 a0_5 a0_6).bind fun t106 => (if t106 = true then (moment_Days.l0 k (wrap64 ((wrap64 ((wrap64 ((wrap64 ((wrap64 ((wrap64 (365 * (wrap64 (a0_0 - 1)))) + (wrap64 (Int.tdiv (wrap64 (a0_0 - 1)) 4)))) - (wrap64 (Int.tdiv (wrap64 (a0_0 - 1)) 100)))) + (wrap64 (Int.tdiv (wrap64 (a0_0 - 1)) 400)))) + a0_2)) - 1)) 1 a0_0 a0_1 a0_2 a0_3 a0_4 a0_5 a0_6) else (some 0))
set_option maxHeartbeats 8000000 in
set_option maxRecDepth 100000 in
theorem moment_Days.calls (k : Nat) (a0_0 : Int) (a0_1 : Int) (a0_2 : Int) (a0_3 : Int) (a0_4 : Int) (a0_5 : Int) (a0_6 : Int) (r : Int) (w : World) (h : moment_Days.f k a0_0 a0_1 a0_2 a0_3 a0_4 a0_5 a0_6 = some r) (hL_ : Laid w) :
  Calls Tryd.prog 20 #[.agg #[.int .i64 a0_0, .int .i64 a0_1, .int .i64 a0_2, .int .i64 a0_3, .int .i64 a0_4, .int .i64 a0_5, .int .i64 a0_6]] w fun e w' => e = .returned (.int .i64 r) ∧ Below w.heap.size w w' := by
 have HL_ := Aside0.mk hL_
 clear hL_
 have hu23 := Tryd.underlying23
 have HB := Aside0.mk (Below.refl w.heap.size w)
 have H : ((moment_Valid.f a0_0 a0_1 a0_2 a0_3 a0_4 a0_5 a0_6).bind fun t106 => (if t106 = true then (moment_Days.l0 k (wrap64 ((wrap64 ((wrap64 ((wrap64 ((wrap64 ((wrap64 (365 * (wrap64 (a0_0 - 1)))) + (wrap64 (Int.tdiv (wrap64 (a0_0 - 1)) 4)))) - (wrap64 (Int.tdiv (wrap64 (a0_0 - 1)) 100)))) + (wrap64 (Int.tdiv (wrap64 (a0_0 - 1)) 400)))) + a0_2)) - 1)) 1 a0_0 a0_1 a0_2 a0_3 a0_4 a0_5 a0_6) else (some 0))) = some r := h
 clear h
 replace H := Option.bind_eq_some_iff.mp H
 obtain ⟨t106, A20, H⟩ := H
 replace H : (if t106 = true then (moment_Days.l0 k (wrap64 ((wrap64 ((wrap64 ((wrap64 ((wrap64 ((wrap64 (365 * (wrap64 (a0_0 - 1)))) + (wrap64 (Int.tdiv (wrap64 (a0_0 - 1)) 4)))) - (wrap64 (Int.tdiv (wrap64 (a0_0 - 1)) 100)))) + (wrap64 (Int.tdiv (wrap64 (a0_0 - 1)) 400)))) + a0_2)) - 1)) 1 a0_0 a0_1 a0_2 a0_3 a0_4 a0_5 a0_6) else (some 0)) = some r := H
 have A2 := Aside0.mk A20
 clear A20
 by_cases c3 : t106 = true
 ·subst c3
  have H1 : (moment_Days.l0 k (wrap64 ((wrap64 ((wrap64 ((wrap64 ((wrap64 ((wrap64 (365 * (wrap64 (a0_0 - 1)))) + (wrap64 (Int.tdiv (wrap64 (a0_0 - 1)) 4)))) - (wrap64 (Int.tdiv (wrap64 (a0_0 - 1)) 100)))) + (wrap64 (Int.tdiv (wrap64 (a0_0 - 1)) 400)))) + a0_2)) - 1)) 1 a0_0 a0_1 a0_2 a0_3 a0_4 a0_5 a0_6) = some r := by rw [if_pos rfl] at H; exact H
  clear H
  have H := H1
  clear H1
  have H' := Aside0.mk H
  clear H
  go_enter Tryd.func20, Tryd.ntmps20
  go_wp2_with (first | ((with_reducible refine gate_dst (N := 1) rfl ?_); refine box_event ?hg (N := 1) ?hd (cs := #[.int .i64 a0_0, .int .i64 a0_1, .int .i64 a0_2, .int .i64 a0_3, .int .i64 a0_4, .int .i64 a0_5, .int .i64 a0_6]) (t := 23) ?hr ?_; (case hd => rfl); (case hg => rfl); (case hr => first | (go_simp; done) | (go_simp; rfl)); intro gb105 hg w4 hbox hb; have n0_ := Aside0.mk (below_step (by repeat (first | (with_reducible first | exact HB.out | apply below_alloc | apply pw_below_drewN | apply below_drew1) | exact HB.out)) hb); have n1_ := Aside0.mk (hbox); have n2_ := Aside0.mk ((by rw [hg]; exact (below_size (by repeat (first | (with_reducible first | exact HB.out | apply below_alloc | apply pw_below_drewN | apply below_drew1) | exact HB.out))) : w.heap.size ≤ gb105)); have n3_ := Aside0.mk ((by rw [hg]; exact (below_size (by repeat (first | (with_reducible first | exact HB.out | apply below_alloc | apply pw_below_drewN | apply below_drew1) | exact HB.out))) : w.heap.size ≤ gb105)); clear HB; have HB := n0_; have BK105 := n1_; have GW105 := n2_; have GE105 := n3_; clear n0_ n1_ n2_ n3_; clear hb hbox hg; have hcz5_0 : w4.cell? ⟨gb105, 0, none⟩ = some (.int .i64 a0_0) := (blk_cell BK105.out 0).trans rfl; have hcz5_1 : w4.cell? ⟨gb105, 1, none⟩ = some (.int .i64 a0_1) := (blk_cell BK105.out 1).trans rfl; have hcz5_2 : w4.cell? ⟨gb105, 2, none⟩ = some (.int .i64 a0_2) := (blk_cell BK105.out 2).trans rfl; have hcz5_3 : w4.cell? ⟨gb105, 3, none⟩ = some (.int .i64 a0_3) := (blk_cell BK105.out 3).trans rfl; have hcz5_4 : w4.cell? ⟨gb105, 4, none⟩ = some (.int .i64 a0_4) := (blk_cell BK105.out 4).trans rfl; have hcz5_5 : w4.cell? ⟨gb105, 5, none⟩ = some (.int .i64 a0_5) := (blk_cell BK105.out 5).trans rfl; have hcz5_6 : w4.cell? ⟨gb105, 6, none⟩ = some (.int .i64 a0_6) := (blk_cell BK105.out 6).trans rfl; have hfz5_0 := blk_frozen BK105.out 0; have hfz5_1 := blk_frozen BK105.out 1; have hfz5_2 := blk_frozen BK105.out 2; have hfz5_3 := blk_frozen BK105.out 3; have hfz5_4 := blk_frozen BK105.out 4; have hfz5_5 := blk_frozen BK105.out 5; have hfz5_6 := blk_frozen BK105.out 6) | ((with_reducible refine gate_callee (f := 19) rfl ?_); refine goesL_ (some 7) rfl rfl Tryd.func19 (by kernel_rfl) rfl #[.agg #[.int .i64 a0_0, .int .i64 a0_1, .int .i64 a0_2, .int .i64 a0_3, .int .i64 a0_4, .int .i64 a0_5, .int .i64 a0_6]] rfl (by (try simp only [List.map_toArray, List.map_cons, List.map_nil]); first | done | rfl) ?_; (with_reducible refine (moment_Valid.calls a0_0 a0_1 a0_2 a0_3 a0_4 a0_5 a0_6 true _ A2.out (by first | exact laid_below HL_.out (by repeat (first | (with_reducible first | exact HB.out | apply below_alloc | apply pw_below_drewN | apply below_drew1) | exact HB.out)) | exact laid_drawn HL_.out (by repeat (first | exact Drawn0.refl _ | apply Drawn0.step)))).mono ?_); rintro e w6 ⟨rfl, hb⟩; refine ⟨_, rfl, ?_⟩; have n0_ := Aside0.mk (blk_below (g := gb105) (o := .cells #[.int .i64 a0_0, .int .i64 a0_1, .int .i64 a0_2, .int .i64 a0_3, .int .i64 a0_4, .int .i64 a0_5, .int .i64 a0_6] 23 (0, 0)) (by (with_reducible repeat first | refine blk_drewN ?_ _ | refine blk_alloc ?_ _); exact BK105.out) hb); have n1_ := Aside0.mk (below_step (by repeat (first | (with_reducible first | exact HB.out | apply below_alloc | apply pw_below_drewN | apply below_drew1 | refine below_set ?_ GE105.out) | exact HB.out)) hb); clear BK105; clear HB; have BK105 := n0_; have HB := n1_; clear n0_ n1_; (try clear hb); (try clear hb2); (try clear hk); (try clear hi); have hcz7_0 : w6.cell? ⟨gb105, 0, none⟩ = some (.int .i64 a0_0) := (blk_cell BK105.out 0).trans rfl; have hcz7_1 : w6.cell? ⟨gb105, 1, none⟩ = some (.int .i64 a0_1) := (blk_cell BK105.out 1).trans rfl; have hcz7_2 : w6.cell? ⟨gb105, 2, none⟩ = some (.int .i64 a0_2) := (blk_cell BK105.out 2).trans rfl; have hcz7_3 : w6.cell? ⟨gb105, 3, none⟩ = some (.int .i64 a0_3) := (blk_cell BK105.out 3).trans rfl; have hcz7_4 : w6.cell? ⟨gb105, 4, none⟩ = some (.int .i64 a0_4) := (blk_cell BK105.out 4).trans rfl; have hcz7_5 : w6.cell? ⟨gb105, 5, none⟩ = some (.int .i64 a0_5) := (blk_cell BK105.out 5).trans rfl; have hcz7_6 : w6.cell? ⟨gb105, 6, none⟩ = some (.int .i64 a0_6) := (blk_cell BK105.out 6).trans rfl; have hfz7_0 := blk_frozen BK105.out 0; have hfz7_1 := blk_frozen BK105.out 1; have hfz7_2 := blk_frozen BK105.out 2; have hfz7_3 := blk_frozen BK105.out 3; have hfz7_4 := blk_frozen BK105.out 4; have hfz7_5 := blk_frozen BK105.out 5; have hfz7_6 := blk_frozen BK105.out 6))
  go_loopg [4, 5] k (fun kq v4 v5 w' => ∃ (x4_1 : Int) (x5_1 : Int), v4 = .int .i64 x4_1 ∧ v5 = .int .i64 x5_1 ∧ Aside0 (moment_Days.l0 kq x4_1 x5_1 a0_0 a0_1 a0_2 a0_3 a0_4 a0_5 a0_6 = some r) ∧ Aside0 (kq ≤ k) ∧ Aside0 (w'.heap[gb105]? = some (.cells #[.int .i64 a0_0, .int .i64 a0_1, .int .i64 a0_2, .int .i64 a0_3, .int .i64 a0_4, .int .i64 a0_5, .int .i64 a0_6] 23 (0, 0))) ∧ Aside0 (Below w.heap.size w w'))
  case atStart => exact ⟨(wrap64 ((wrap64 ((wrap64 ((wrap64 ((wrap64 ((wrap64 (365 * (wrap64 (a0_0 - 1)))) + (wrap64 (Int.tdiv (wrap64 (a0_0 - 1)) 4)))) - (wrap64 (Int.tdiv (wrap64 (a0_0 - 1)) 100)))) + (wrap64 (Int.tdiv (wrap64 (a0_0 - 1)) 400)))) + a0_2)) - 1)), (1), (by first | rfl | (simp; done) | (simp [*]; done)), (by first | rfl | (simp; done) | (simp [*]; done)), H', ⟨Nat.le_refl _⟩, ⟨by (with_reducible repeat first | refine blk_drewN ?_ _ | refine blk_alloc ?_ _); exact BK105.out⟩, ⟨by repeat (first | (with_reducible first | exact HB.out | apply below_alloc | apply pw_below_drewN | apply below_drew1 | refine below_set ?_ GE105.out) | exact HB.out)⟩⟩
  case round =>
   clear H'
   try clear c1
   try clear c2
   try clear p2
   try clear c3
   try clear p6
   try clear hcz5_0
   try clear hcz5_1
   try clear hcz5_2
   try clear hcz5_3
   try clear hcz5_4
   try clear hcz5_5
   try clear hcz5_6
   try clear hcz7_0
   try clear hcz7_1
   try clear hcz7_2
   try clear hcz7_3
   try clear hcz7_4
   try clear hcz7_5
   try clear hcz7_6
   try clear hfz5_0
   try clear hfz5_1
   try clear hfz5_2
   try clear hfz5_3
   try clear hfz5_4
   try clear hfz5_5
   try clear hfz5_6
   try clear hfz7_0
   try clear hfz7_1
   try clear hfz7_2
   try clear hfz7_3
   try clear hfz7_4
   try clear hfz7_5
   try clear hfz7_6
   obtain ⟨x4_1, x5_1, rfl, rfl, HA, HK1, BK105, HB⟩ := hrel
   cases gk with
   | zero => exact absurd HA.out (by simp [moment_Days.l0])
   | succ k1 =>
    have H := HA.out
    clear HA
    simp only [moment_Days.l0] at H
    by_cases c8 : x5_1 < a0_1
    ·rw [if_pos c8] at H
     have c8b0 : decide (x5_1 < a0_1) = true := decide_eq_true c8
     clear c8
     replace H := Option.bind_eq_some_iff.mp H
     obtain ⟨t107, A90, H⟩ := H
     replace H : (moment_Days.l0 k1 (wrap64 (x4_1 + t107)) (wrap64 (x5_1 + 1)) a0_0 a0_1 a0_2 a0_3 a0_4 a0_5 a0_6) = some r := H
     have A9 := Aside0.mk A90
     clear A90
     have H' := Aside0.mk H
     clear H
     have hcz10_0 : wr.cell? ⟨gb105, 0, none⟩ = some (.int .i64 a0_0) := (blk_cell BK105.out 0).trans rfl
     have hcz10_1 : wr.cell? ⟨gb105, 1, none⟩ = some (.int .i64 a0_1) := (blk_cell BK105.out 1).trans rfl
     have hcz10_2 : wr.cell? ⟨gb105, 2, none⟩ = some (.int .i64 a0_2) := (blk_cell BK105.out 2).trans rfl
     have hcz10_3 : wr.cell? ⟨gb105, 3, none⟩ = some (.int .i64 a0_3) := (blk_cell BK105.out 3).trans rfl
     have hcz10_4 : wr.cell? ⟨gb105, 4, none⟩ = some (.int .i64 a0_4) := (blk_cell BK105.out 4).trans rfl
     have hcz10_5 : wr.cell? ⟨gb105, 5, none⟩ = some (.int .i64 a0_5) := (blk_cell BK105.out 5).trans rfl
     have hcz10_6 : wr.cell? ⟨gb105, 6, none⟩ = some (.int .i64 a0_6) := (blk_cell BK105.out 6).trans rfl
     have hfz10_0 := blk_frozen BK105.out 0
     have hfz10_1 := blk_frozen BK105.out 1
     have hfz10_2 := blk_frozen BK105.out 2
     have hfz10_3 := blk_frozen BK105.out 3
     have hfz10_4 := blk_frozen BK105.out 4
     have hfz10_5 := blk_frozen BK105.out 5
     have hfz10_6 := blk_frozen BK105.out 6
     go_wp2_with (first | ((with_reducible refine gate_callee (f := 47) rfl ?_); refine goesL_ (some 37) rfl rfl Tryd.func47 (by kernel_rfl) rfl #[.int .i64 a0_0, .int .i64 x5_1] rfl (by (try simp only [List.map_toArray, List.map_cons, List.map_nil]); first | done | rfl) ?_; (with_reducible refine (moment_length.calls a0_0 x5_1 t107 _ A9.out (by first | exact laid_below HL_.out (by repeat (first | (with_reducible first | exact HB.out | apply below_alloc | apply pw_below_drewN | apply below_drew1) | exact HB.out)) | exact laid_drawn HL_.out (by repeat (first | exact Drawn0.refl _ | apply Drawn0.step)))).mono ?_); rintro e w' ⟨rfl, ⟨nd, rfl⟩⟩; refine ⟨_, rfl, ?_⟩))
     go_roundg k1
     case measure => have := HK1.out; omega
     case rel => exact ⟨(wrap64 (x4_1 + t107)), (wrap64 (x5_1 + 1)), (by first | rfl | (simp; done) | (simp [*]; done)), (by first | rfl | (simp; done) | (simp [*]; done)), H', ⟨by have := HK1.out; omega⟩, ⟨by (with_reducible repeat first | refine blk_drewN ?_ _ | refine blk_alloc ?_ _); exact BK105.out⟩, ⟨by repeat (first | (with_reducible first | exact HB.out | apply below_alloc | apply pw_below_drewN | apply below_drew1 | refine below_set ?_ GE105.out) | exact HB.out)⟩⟩
    ·rw [if_neg c8] at H
     have c8b0 : decide (x5_1 < a0_1) = false := decide_eq_false c8
     clear c8
     obtain rfl := Option.some.inj H
     have hcz11_0 : wr.cell? ⟨gb105, 0, none⟩ = some (.int .i64 a0_0) := (blk_cell BK105.out 0).trans rfl
     have hcz11_1 : wr.cell? ⟨gb105, 1, none⟩ = some (.int .i64 a0_1) := (blk_cell BK105.out 1).trans rfl
     have hcz11_2 : wr.cell? ⟨gb105, 2, none⟩ = some (.int .i64 a0_2) := (blk_cell BK105.out 2).trans rfl
     have hcz11_3 : wr.cell? ⟨gb105, 3, none⟩ = some (.int .i64 a0_3) := (blk_cell BK105.out 3).trans rfl
     have hcz11_4 : wr.cell? ⟨gb105, 4, none⟩ = some (.int .i64 a0_4) := (blk_cell BK105.out 4).trans rfl
     have hcz11_5 : wr.cell? ⟨gb105, 5, none⟩ = some (.int .i64 a0_5) := (blk_cell BK105.out 5).trans rfl
     have hcz11_6 : wr.cell? ⟨gb105, 6, none⟩ = some (.int .i64 a0_6) := (blk_cell BK105.out 6).trans rfl
     have hfz11_0 := blk_frozen BK105.out 0
     have hfz11_1 := blk_frozen BK105.out 1
     have hfz11_2 := blk_frozen BK105.out 2
     have hfz11_3 := blk_frozen BK105.out 3
     have hfz11_4 := blk_frozen BK105.out 4
     have hfz11_5 := blk_frozen BK105.out 5
     have hfz11_6 := blk_frozen BK105.out 6
     go_wp2
     go_ret
     exact ⟨by first | rfl | (simp [errW_none, errW_some] <;> rfl) | (simp [*, errW_none, errW_some] <;> rfl), by repeat (first | (with_reducible first | exact HB.out | apply below_alloc | apply pw_below_drewN | apply below_drew1 | refine below_set ?_ GE105.out) | exact HB.out)⟩
 ·replace c3 := Bool.eq_false_iff.mpr c3
  subst c3
  have H1 : (some 0) = some r := by rw [if_neg (show ¬ (false = true) by decide)] at H; exact H
  clear H
  have H := H1
  clear H1
  obtain rfl := Option.some.inj H
  go_enter Tryd.func20, Tryd.ntmps20
  go_wp2_with (first | ((with_reducible refine gate_dst (N := 1) rfl ?_); refine box_event ?hg (N := 1) ?hd (cs := #[.int .i64 a0_0, .int .i64 a0_1, .int .i64 a0_2, .int .i64 a0_3, .int .i64 a0_4, .int .i64 a0_5, .int .i64 a0_6]) (t := 23) ?hr ?_; (case hd => rfl); (case hg => rfl); (case hr => first | (go_simp; done) | (go_simp; rfl)); intro gb105 hg w12 hbox hb; have n0_ := Aside0.mk (below_step (by repeat (first | (with_reducible first | exact HB.out | apply below_alloc | apply pw_below_drewN | apply below_drew1) | exact HB.out)) hb); have n1_ := Aside0.mk (hbox); have n2_ := Aside0.mk ((by rw [hg]; exact (below_size (by repeat (first | (with_reducible first | exact HB.out | apply below_alloc | apply pw_below_drewN | apply below_drew1) | exact HB.out))) : w.heap.size ≤ gb105)); have n3_ := Aside0.mk ((by rw [hg]; exact (below_size (by repeat (first | (with_reducible first | exact HB.out | apply below_alloc | apply pw_below_drewN | apply below_drew1) | exact HB.out))) : w.heap.size ≤ gb105)); clear HB; have HB := n0_; have BK105 := n1_; have GW105 := n2_; have GE105 := n3_; clear n0_ n1_ n2_ n3_; clear hb hbox hg; have hcz13_0 : w12.cell? ⟨gb105, 0, none⟩ = some (.int .i64 a0_0) := (blk_cell BK105.out 0).trans rfl; have hcz13_1 : w12.cell? ⟨gb105, 1, none⟩ = some (.int .i64 a0_1) := (blk_cell BK105.out 1).trans rfl; have hcz13_2 : w12.cell? ⟨gb105, 2, none⟩ = some (.int .i64 a0_2) := (blk_cell BK105.out 2).trans rfl; have hcz13_3 : w12.cell? ⟨gb105, 3, none⟩ = some (.int .i64 a0_3) := (blk_cell BK105.out 3).trans rfl; have hcz13_4 : w12.cell? ⟨gb105, 4, none⟩ = some (.int .i64 a0_4) := (blk_cell BK105.out 4).trans rfl; have hcz13_5 : w12.cell? ⟨gb105, 5, none⟩ = some (.int .i64 a0_5) := (blk_cell BK105.out 5).trans rfl; have hcz13_6 : w12.cell? ⟨gb105, 6, none⟩ = some (.int .i64 a0_6) := (blk_cell BK105.out 6).trans rfl; have hfz13_0 := blk_frozen BK105.out 0; have hfz13_1 := blk_frozen BK105.out 1; have hfz13_2 := blk_frozen BK105.out 2; have hfz13_3 := blk_frozen BK105.out 3; have hfz13_4 := blk_frozen BK105.out 4; have hfz13_5 := blk_frozen BK105.out 5; have hfz13_6 := blk_frozen BK105.out 6) | ((with_reducible refine gate_callee (f := 19) rfl ?_); refine goesL_ (some 7) rfl rfl Tryd.func19 (by kernel_rfl) rfl #[.agg #[.int .i64 a0_0, .int .i64 a0_1, .int .i64 a0_2, .int .i64 a0_3, .int .i64 a0_4, .int .i64 a0_5, .int .i64 a0_6]] rfl (by (try simp only [List.map_toArray, List.map_cons, List.map_nil]); first | done | rfl) ?_; (with_reducible refine (moment_Valid.calls a0_0 a0_1 a0_2 a0_3 a0_4 a0_5 a0_6 false _ A2.out (by first | exact laid_below HL_.out (by repeat (first | (with_reducible first | exact HB.out | apply below_alloc | apply pw_below_drewN | apply below_drew1) | exact HB.out)) | exact laid_drawn HL_.out (by repeat (first | exact Drawn0.refl _ | apply Drawn0.step)))).mono ?_); rintro e w14 ⟨rfl, hb⟩; refine ⟨_, rfl, ?_⟩; have n0_ := Aside0.mk (blk_below (g := gb105) (o := .cells #[.int .i64 a0_0, .int .i64 a0_1, .int .i64 a0_2, .int .i64 a0_3, .int .i64 a0_4, .int .i64 a0_5, .int .i64 a0_6] 23 (0, 0)) (by (with_reducible repeat first | refine blk_drewN ?_ _ | refine blk_alloc ?_ _); exact BK105.out) hb); have n1_ := Aside0.mk (below_step (by repeat (first | (with_reducible first | exact HB.out | apply below_alloc | apply pw_below_drewN | apply below_drew1 | refine below_set ?_ GE105.out) | exact HB.out)) hb); clear BK105; clear HB; have BK105 := n0_; have HB := n1_; clear n0_ n1_; (try clear hb); (try clear hb2); (try clear hk); (try clear hi)))
  go_ret
  exact ⟨by first | rfl | (simp [errW_none, errW_some] <;> rfl) | (simp [*, errW_none, errW_some] <;> rfl), by repeat (first | (with_reducible first | exact HB.out | apply below_alloc | apply pw_below_drewN | apply below_drew1 | refine below_set ?_ GE105.out) | exact HB.out)⟩
def moment_floor.f (a0 : Int) (a1 : Int) : Option (Int × Int) := if a1 = 0 then (none) else (if (Int.tmod a0 a1) < 0 then (some (wrap64 ((wrap64 (Int.tdiv a0 a1)) - 1), wrap64 ((Int.tmod a0 a1) + a1))) else (some (wrap64 (Int.tdiv a0 a1), Int.tmod a0 a1)))
set_option maxHeartbeats 8000000 in
set_option maxRecDepth 100000 in
theorem moment_floor.calls (a0 : Int) (a1 : Int) (r1 : Int) (r2 : Int) (w : World) (h : moment_floor.f a0 a1 = some (r1, r2)) :
  Calls Tryd.prog 48 #[.int .i64 a0, .int .i64 a1] w fun e w' => e = .returned (.tuple #[.int .i64 r1, .int .i64 r2]) ∧ Drawn0 w w' := by
 have H : (if a1 = 0 then (none) else (if (Int.tmod a0 a1) < 0 then (some (wrap64 ((wrap64 (Int.tdiv a0 a1)) - 1), wrap64 ((Int.tmod a0 a1) + a1))) else (some (wrap64 (Int.tdiv a0 a1), Int.tmod a0 a1)))) = some (r1, r2) := h
 clear h
 refine (Classical.em (a1 = 0)).elim (fun c3 => ?p3) (fun c3 => ?n3)
 case' p3 =>
  rw [if_pos c3] at H
  exact absurd H (by simp)
 case' n3 =>
  rw [if_neg c3] at H
  have c3b0 : (a1 == 0) = false := beq_eq_false_iff_ne.mpr c3
  have c3b1 : (a1 != 0) = true := bne_iff_ne.mpr c3
  refine (Classical.em ((Int.tmod a0 a1) < 0)).elim (fun c4 => ?p4) (fun c4 => ?n4)
  case' p4 =>
   rw [if_pos c4] at H
   have c4b0 : decide ((Int.tmod a0 a1) < 0) = true := decide_eq_true c4
   clear c4
   simp only [Option.some.injEq, Prod.mk.injEq] at H
   obtain ⟨rfl, rfl⟩ := H
  case' n4 =>
   rw [if_neg c4] at H
   have c4b0 : decide ((Int.tmod a0 a1) < 0) = false := decide_eq_false c4
   clear c4
   simp only [Option.some.injEq, Prod.mk.injEq] at H
   obtain ⟨rfl, rfl⟩ := H
 all_goals
  go_enter Tryd.func48, Tryd.ntmps48
  go_wp2
  repeat (go_quiet (fail); try go_wp2)
  go_ret2
  exact ⟨by first | rfl | (simp; done) | (simp [*]; done), by repeat (first | exact Drawn0.refl _ | apply Drawn0.step)⟩
def moment_Weekday.f (k : Nat) (a0_0 : Int) (a0_1 : Int) (a0_2 : Int) (a0_3 : Int) (a0_4 : Int) (a0_5 : Int) (a0_6 : Int) : Option (Int) := (moment_Valid.f a0_0 a0_1 a0_2 a0_3 a0_4 a0_5 a0_6).bind fun t109 => (if t109 = true then ((moment_Days.f k a0_0 a0_1 a0_2 a0_3 a0_4 a0_5 a0_6).bind fun t110 => ((moment_floor.f (wrap64 (t110 + 4)) 7).bind fun bt111 => (some bt111.2))) else (some 0))
set_option maxHeartbeats 8000000 in
set_option maxRecDepth 100000 in
theorem moment_Weekday.calls (k : Nat) (a0_0 : Int) (a0_1 : Int) (a0_2 : Int) (a0_3 : Int) (a0_4 : Int) (a0_5 : Int) (a0_6 : Int) (r : Int) (w : World) (h : moment_Weekday.f k a0_0 a0_1 a0_2 a0_3 a0_4 a0_5 a0_6 = some r) (hL_ : Laid w) :
  Calls Tryd.prog 21 #[.agg #[.int .i64 a0_0, .int .i64 a0_1, .int .i64 a0_2, .int .i64 a0_3, .int .i64 a0_4, .int .i64 a0_5, .int .i64 a0_6]] w fun e w' => e = .returned (.int .i64 r) ∧ Below w.heap.size w w' := by
 have HL_ := Aside0.mk hL_
 clear hL_
 have hu23 := Tryd.underlying23
 have HB := Aside0.mk (Below.refl w.heap.size w)
 have H : ((moment_Valid.f a0_0 a0_1 a0_2 a0_3 a0_4 a0_5 a0_6).bind fun t109 => (if t109 = true then ((moment_Days.f k a0_0 a0_1 a0_2 a0_3 a0_4 a0_5 a0_6).bind fun t110 => ((moment_floor.f (wrap64 (t110 + 4)) 7).bind fun bt111 => (some bt111.2))) else (some 0))) = some r := h
 clear h
 replace H := Option.bind_eq_some_iff.mp H
 obtain ⟨t109, A20, H⟩ := H
 replace H : (if t109 = true then ((moment_Days.f k a0_0 a0_1 a0_2 a0_3 a0_4 a0_5 a0_6).bind fun t110 => ((moment_floor.f (wrap64 (t110 + 4)) 7).bind fun bt111 => (some bt111.2))) else (some 0)) = some r := H
 have A2 := Aside0.mk A20
 clear A20
 refine (Classical.em (t109 = true)).elim (fun c3 => ?p3) (fun c3 => ?n3)
 case' p3 =>
  subst c3
  have H1 : ((moment_Days.f k a0_0 a0_1 a0_2 a0_3 a0_4 a0_5 a0_6).bind fun t110 => ((moment_floor.f (wrap64 (t110 + 4)) 7).bind fun bt111 => (some bt111.2))) = some r := by rw [if_pos rfl] at H; exact H
  clear H
  have H := H1
  clear H1
  replace H := Option.bind_eq_some_iff.mp H
  obtain ⟨t110, A40, H⟩ := H
  replace H : ((moment_floor.f (wrap64 (t110 + 4)) 7).bind fun bt111 => (some bt111.2)) = some r := H
  have A4 := Aside0.mk A40
  clear A40
  replace H := Option.bind_eq_some_iff.mp H
  obtain ⟨⟨t111, t112⟩, A50, H⟩ := H
  replace H : (some t112) = some r := H
  have A5 := Aside0.mk A50
  clear A50
  obtain rfl := Option.some.inj H
 case' n3 =>
  replace c3 := Bool.eq_false_iff.mpr c3
  subst c3
  have H1 : (some 0) = some r := by rw [if_neg (show ¬ (false = true) by decide)] at H; exact H
  clear H
  have H := H1
  clear H1
  obtain rfl := Option.some.inj H
 all_goals
  go_enter Tryd.func21, Tryd.ntmps21
  go_wp2_with (first | ((with_reducible refine gate_dst (N := 1) rfl ?_); refine box_event ?hg (N := 1) ?hd (cs := #[.int .i64 a0_0, .int .i64 a0_1, .int .i64 a0_2, .int .i64 a0_3, .int .i64 a0_4, .int .i64 a0_5, .int .i64 a0_6]) (t := 23) ?hr ?_; (case hd => rfl); (case hg => rfl); (case hr => first | (go_simp; done) | (go_simp; rfl)); intro gb108 hg w6 hbox hb; have n0_ := Aside0.mk (below_step (by repeat (first | (with_reducible first | exact HB.out | apply below_alloc | apply pw_below_drewN | apply below_drew1) | exact HB.out)) hb); have n1_ := Aside0.mk (hbox); have n2_ := Aside0.mk ((by rw [hg]; exact (below_size (by repeat (first | (with_reducible first | exact HB.out | apply below_alloc | apply pw_below_drewN | apply below_drew1) | exact HB.out))) : w.heap.size ≤ gb108)); have n3_ := Aside0.mk ((by rw [hg]; exact (below_size (by repeat (first | (with_reducible first | exact HB.out | apply below_alloc | apply pw_below_drewN | apply below_drew1) | exact HB.out))) : w.heap.size ≤ gb108)); clear HB; have HB := n0_; have BK108 := n1_; have GW108 := n2_; have GE108 := n3_; clear n0_ n1_ n2_ n3_; clear hb hbox hg; have hcz7_0 : w6.cell? ⟨gb108, 0, none⟩ = some (.int .i64 a0_0) := (blk_cell BK108.out 0).trans rfl; have hcz7_1 : w6.cell? ⟨gb108, 1, none⟩ = some (.int .i64 a0_1) := (blk_cell BK108.out 1).trans rfl; have hcz7_2 : w6.cell? ⟨gb108, 2, none⟩ = some (.int .i64 a0_2) := (blk_cell BK108.out 2).trans rfl; have hcz7_3 : w6.cell? ⟨gb108, 3, none⟩ = some (.int .i64 a0_3) := (blk_cell BK108.out 3).trans rfl; have hcz7_4 : w6.cell? ⟨gb108, 4, none⟩ = some (.int .i64 a0_4) := (blk_cell BK108.out 4).trans rfl; have hcz7_5 : w6.cell? ⟨gb108, 5, none⟩ = some (.int .i64 a0_5) := (blk_cell BK108.out 5).trans rfl; have hcz7_6 : w6.cell? ⟨gb108, 6, none⟩ = some (.int .i64 a0_6) := (blk_cell BK108.out 6).trans rfl; have hfz7_0 := blk_frozen BK108.out 0; have hfz7_1 := blk_frozen BK108.out 1; have hfz7_2 := blk_frozen BK108.out 2; have hfz7_3 := blk_frozen BK108.out 3; have hfz7_4 := blk_frozen BK108.out 4; have hfz7_5 := blk_frozen BK108.out 5; have hfz7_6 := blk_frozen BK108.out 6) | ((with_reducible refine gate_callee (f := 19) rfl ?_); refine goesL_ (some 6) rfl rfl Tryd.func19 (by kernel_rfl) rfl #[.agg #[.int .i64 a0_0, .int .i64 a0_1, .int .i64 a0_2, .int .i64 a0_3, .int .i64 a0_4, .int .i64 a0_5, .int .i64 a0_6]] rfl (by (try simp only [List.map_toArray, List.map_cons, List.map_nil]); first | done | rfl) ?_; (with_reducible refine (moment_Valid.calls a0_0 a0_1 a0_2 a0_3 a0_4 a0_5 a0_6 _ _ A2.out (by first | exact laid_below HL_.out (by repeat (first | (with_reducible first | exact HB.out | apply below_alloc | apply pw_below_drewN | apply below_drew1) | exact HB.out)) | exact laid_drawn HL_.out (by repeat (first | exact Drawn0.refl _ | apply Drawn0.step)))).mono ?_); rintro e w8 ⟨rfl, hb⟩; refine ⟨_, rfl, ?_⟩; have n0_ := Aside0.mk (blk_below (g := gb108) (o := .cells #[.int .i64 a0_0, .int .i64 a0_1, .int .i64 a0_2, .int .i64 a0_3, .int .i64 a0_4, .int .i64 a0_5, .int .i64 a0_6] 23 (0, 0)) (by (with_reducible repeat first | refine blk_drewN ?_ _ | refine blk_alloc ?_ _); exact BK108.out) hb); have n1_ := Aside0.mk (below_step (by repeat (first | (with_reducible first | exact HB.out | apply below_alloc | apply pw_below_drewN | apply below_drew1 | refine below_set ?_ GE108.out) | exact HB.out)) hb); clear BK108; clear HB; have BK108 := n0_; have HB := n1_; clear n0_ n1_; (try clear hb); (try clear hb2); (try clear hk); (try clear hi); have hcz9_0 : w8.cell? ⟨gb108, 0, none⟩ = some (.int .i64 a0_0) := (blk_cell BK108.out 0).trans rfl; have hcz9_1 : w8.cell? ⟨gb108, 1, none⟩ = some (.int .i64 a0_1) := (blk_cell BK108.out 1).trans rfl; have hcz9_2 : w8.cell? ⟨gb108, 2, none⟩ = some (.int .i64 a0_2) := (blk_cell BK108.out 2).trans rfl; have hcz9_3 : w8.cell? ⟨gb108, 3, none⟩ = some (.int .i64 a0_3) := (blk_cell BK108.out 3).trans rfl; have hcz9_4 : w8.cell? ⟨gb108, 4, none⟩ = some (.int .i64 a0_4) := (blk_cell BK108.out 4).trans rfl; have hcz9_5 : w8.cell? ⟨gb108, 5, none⟩ = some (.int .i64 a0_5) := (blk_cell BK108.out 5).trans rfl; have hcz9_6 : w8.cell? ⟨gb108, 6, none⟩ = some (.int .i64 a0_6) := (blk_cell BK108.out 6).trans rfl; have hfz9_0 := blk_frozen BK108.out 0; have hfz9_1 := blk_frozen BK108.out 1; have hfz9_2 := blk_frozen BK108.out 2; have hfz9_3 := blk_frozen BK108.out 3; have hfz9_4 := blk_frozen BK108.out 4; have hfz9_5 := blk_frozen BK108.out 5; have hfz9_6 := blk_frozen BK108.out 6) | ((with_reducible refine gate_callee (f := 20) rfl ?_); refine goesL_ (some 10) rfl rfl Tryd.func20 (by kernel_rfl) rfl #[.agg #[.int .i64 a0_0, .int .i64 a0_1, .int .i64 a0_2, .int .i64 a0_3, .int .i64 a0_4, .int .i64 a0_5, .int .i64 a0_6]] rfl (by (try simp only [List.map_toArray, List.map_cons, List.map_nil]); first | done | rfl) ?_; (with_reducible refine (moment_Days.calls k a0_0 a0_1 a0_2 a0_3 a0_4 a0_5 a0_6 t110 _ A4.out (by first | exact laid_below HL_.out (by repeat (first | (with_reducible first | exact HB.out | apply below_alloc | apply pw_below_drewN | apply below_drew1) | exact HB.out)) | exact laid_drawn HL_.out (by repeat (first | exact Drawn0.refl _ | apply Drawn0.step)))).mono ?_); rintro e w10 ⟨rfl, hb⟩; refine ⟨_, rfl, ?_⟩; have n0_ := Aside0.mk (blk_below (g := gb108) (o := .cells #[.int .i64 a0_0, .int .i64 a0_1, .int .i64 a0_2, .int .i64 a0_3, .int .i64 a0_4, .int .i64 a0_5, .int .i64 a0_6] 23 (0, 0)) (by (with_reducible repeat first | refine blk_drewN ?_ _ | refine blk_alloc ?_ _); exact BK108.out) hb); have n1_ := Aside0.mk (below_step (by repeat (first | (with_reducible first | exact HB.out | apply below_alloc | apply pw_below_drewN | apply below_drew1 | refine below_set ?_ GE108.out) | exact HB.out)) hb); clear BK108; clear HB; have BK108 := n0_; have HB := n1_; clear n0_ n1_; (try clear hb); (try clear hb2); (try clear hk); (try clear hi)) | ((with_reducible refine gate_callee (f := 48) rfl ?_); refine goesL_ (some 12) rfl rfl Tryd.func48 (by kernel_rfl) rfl #[.int .i64 (wrap64 (t110 + 4)), .int .i64 7] rfl (by (try simp only [List.map_toArray, List.map_cons, List.map_nil]); first | done | rfl) ?_; (with_reducible refine (moment_floor.calls (wrap64 (t110 + 4)) 7 t111 t112 _ A5.out).mono ?_); rintro e w' ⟨rfl, ⟨nd, rfl⟩⟩; refine ⟨_, rfl, ?_⟩))
  go_ret
  exact ⟨by first | rfl | (simp [errW_none, errW_some] <;> rfl) | (simp [*, errW_none, errW_some] <;> rfl), by repeat (first | (with_reducible first | exact HB.out | apply below_alloc | apply pw_below_drewN | apply below_drew1 | refine below_set ?_ GE108.out) | exact HB.out)⟩
def moment_isLetter.f (a0 : Int) : Option (Bool) := if a0 ≥ 65 then (if a0 ≤ 90 then (some true) else (if a0 ≥ 97 then (some (decide (a0 ≤ 122))) else (some false))) else (if a0 ≥ 97 then (some (decide (a0 ≤ 122))) else (some false))
set_option maxHeartbeats 8000000 in
set_option maxRecDepth 100000 in
theorem moment_isLetter.calls (a0 : Int) (r : Bool) (w : World) (h : moment_isLetter.f a0 = some r) :
  Calls Tryd.prog 89 #[.int .u8 a0] w fun e w' => e = .returned (.bool r) ∧ Drawn0 w w' := by
 have H : (if a0 ≥ 65 then (if a0 ≤ 90 then (some true) else (if a0 ≥ 97 then (some (decide (a0 ≤ 122))) else (some false))) else (if a0 ≥ 97 then (some (decide (a0 ≤ 122))) else (some false))) = some r := h
 clear h
 refine (Classical.em (a0 ≥ 65)).elim (fun c2 => ?p2) (fun c2 => ?n2)
 case' p2 =>
  rw [if_pos c2] at H
  have c2b0 : decide (65 ≤ a0) = true := decide_eq_true c2
  clear c2
  refine (Classical.em (a0 ≤ 90)).elim (fun c3 => ?p3) (fun c3 => ?n3)
  case' p3 =>
   rw [if_pos c3] at H
   have c3b0 : decide (a0 ≤ 90) = true := decide_eq_true c3
   clear c3
   obtain rfl := Option.some.inj H
  case' n3 =>
   rw [if_neg c3] at H
   have c3b0 : decide (a0 ≤ 90) = false := decide_eq_false c3
   clear c3
   refine (Classical.em (a0 ≥ 97)).elim (fun c4 => ?p4) (fun c4 => ?n4)
   case' p4 =>
    rw [if_pos c4] at H
    have c4b0 : decide (97 ≤ a0) = true := decide_eq_true c4
    clear c4
    obtain rfl := Option.some.inj H
   case' n4 =>
    rw [if_neg c4] at H
    have c4b0 : decide (97 ≤ a0) = false := decide_eq_false c4
    clear c4
    obtain rfl := Option.some.inj H
 case' n2 =>
  rw [if_neg c2] at H
  have c2b0 : decide (65 ≤ a0) = false := decide_eq_false c2
  clear c2
  refine (Classical.em (a0 ≥ 97)).elim (fun c5 => ?p5) (fun c5 => ?n5)
  case' p5 =>
   rw [if_pos c5] at H
   have c5b0 : decide (97 ≤ a0) = true := decide_eq_true c5
   clear c5
   obtain rfl := Option.some.inj H
  case' n5 =>
   rw [if_neg c5] at H
   have c5b0 : decide (97 ≤ a0) = false := decide_eq_false c5
   clear c5
   obtain rfl := Option.some.inj H
 all_goals
  go_enter Tryd.func89, Tryd.ntmps89
  go_wp2
  go_ret
  exact ⟨by first | rfl | (simp; done) | (simp [*]; done), by repeat (first | exact Drawn0.refl _ | apply Drawn0.step)⟩
def moment_isDigit.f (a0 : Int) : Option (Bool) := if a0 ≥ 48 then (some (decide (a0 ≤ 57))) else (some false)
set_option maxHeartbeats 8000000 in
set_option maxRecDepth 100000 in
theorem moment_isDigit.calls (a0 : Int) (r : Bool) (w : World) (h : moment_isDigit.f a0 = some r) :
  Calls Tryd.prog 91 #[.int .u8 a0] w fun e w' => e = .returned (.bool r) ∧ Drawn0 w w' := by
 have H : (if a0 ≥ 48 then (some (decide (a0 ≤ 57))) else (some false)) = some r := h
 clear h
 refine (Classical.em (a0 ≥ 48)).elim (fun c2 => ?p2) (fun c2 => ?n2)
 case' p2 =>
  rw [if_pos c2] at H
  have c2b0 : decide (48 ≤ a0) = true := decide_eq_true c2
  clear c2
  obtain rfl := Option.some.inj H
 case' n2 =>
  rw [if_neg c2] at H
  have c2b0 : decide (48 ≤ a0) = false := decide_eq_false c2
  clear c2
  obtain rfl := Option.some.inj H
 all_goals
  go_enter Tryd.func91, Tryd.ntmps91
  go_wp2
  go_ret
  exact ⟨by first | rfl | (simp; done) | (simp [*]; done), by repeat (first | exact Drawn0.refl _ | apply Drawn0.step)⟩
mutual
def moment_digits.j0 : Nat → ByteArray → Bool → Option (Int × Bool)
 | 0, _, _ => none
 | k + 1, x0, x12 => if x12 = true then (some (0, false)) else (moment_digits.l0 k x0 0 (x0.size : Int) 0)
def moment_digits.l0 : Nat → ByteArray → Int → Int → Int → Option (Int × Bool)
 | 0, _, _, _, _ => none
 | k + 1, x0, x4, x14, x15 => if x15 < x14 then (if 0 ≤ x15 then (if x15 < (x0.size : Int) then (if (bt x0 x15) < 48 then (some (0, false)) else (if (bt x0 x15) > 57 then (some (0, false)) else (moment_digits.l0 k x0 (wrap64 ((wrap64 (10 * x4)) + (((bt x0 x15) - 48) % 256))) x14 (wrap64 (x15 + 1))))) else (none)) else (none)) else (some (x4, true))
end
def moment_digits.f (k : Nat) (a0 : ByteArray) : Option (Int × Bool) := if a0.toList = ([] : List UInt8) then (moment_digits.j0 k a0 true) else (moment_digits.j0 k a0 (decide ((a0.size : Int) > 4)))
set_option maxHeartbeats 8000000 in
set_option maxRecDepth 100000 in
theorem moment_digits.calls (k : Nat) (a0 : ByteArray) (r1 : Int) (r2 : Bool) (w : World) (h : moment_digits.f k a0 = some (r1, r2)) :
  Calls Tryd.prog 68 #[.string a0] w fun e w' => e = .returned (.tuple #[.int .i64 r1, .bool r2]) ∧ Drawn0 w w' := by
 have H : (if a0.toList = ([] : List UInt8) then (moment_digits.j0 k a0 true) else (moment_digits.j0 k a0 (decide ((a0.size : Int) > 4)))) = some (r1, r2) := h
 clear h
 have HC2 := Aside0.mk H
 clear H
 go_enter Tryd.func68, Tryd.ntmps68
 go_upto_region 1 with (fail)
 go_cut [12] (fun v12 wc => ∃ (kq : Nat) (x12_1 : Bool), v12 = .bool x12_1 ∧ Aside0 (moment_digits.j0 kq a0 x12_1 = some (r1, r2)) ∧ Aside0 (kq ≤ k) ∧ Drawn0 w wc)
 case first =>
  have H := HC2.out
  clear HC2
  by_cases c3 : a0.toList = ([] : List UInt8)
  ·rw [if_pos c3] at H
   have c3b0 : (a0.toList == ([] : List UInt8)) = true := beq_iff_eq.mpr c3
   have c3b1 : (a0.toList != ([] : List UInt8)) = false := bne_eq_false_iff_eq.mpr c3
   clear c3
   (first | rw [c3b0] | (simp only [i64_w, i32_w]; rw [c3b0]) | skip)
   have H' := Aside0.mk H
   clear H
   go_wp2
   go_meet
   case rel => exact ⟨_, (true), (by first | rfl | (simp; done) | (simp [*]; done)), H', ⟨by first | omega | exact Nat.le_refl _⟩, by repeat (first | exact Drawn0.refl _ | apply Drawn0.step)⟩
  ·rw [if_neg c3] at H
   have c3b0 : (a0.toList == ([] : List UInt8)) = false := beq_eq_false_iff_ne.mpr c3
   have c3b1 : (a0.toList != ([] : List UInt8)) = true := bne_iff_ne.mpr c3
   (first | rw [c3b0] | (simp only [i64_w, i32_w]; rw [c3b0]) | skip)
   have H' := Aside0.mk H
   clear H
   go_wp2
   go_meet
   case rel => exact ⟨_, (decide ((a0.size : Int) > 4)), (by first | rfl | (simp; done) | (simp [*]; done)), H', ⟨by first | omega | exact Nat.le_refl _⟩, by repeat (first | exact Drawn0.refl _ | apply Drawn0.step)⟩
 case rest =>
  clear HC2
  try clear p2
  try clear c3
  try clear c3b0
  try clear c3b1
  obtain ⟨kq, x12_1, rfl, HA, HJ1, ⟨mc1, rfl⟩⟩ := hcut
  cases kq with
  | zero => exact absurd HA.out (by simp [moment_digits.j0])
  | succ kj1 =>
   have H := HA.out
   clear HA
   simp only [moment_digits.j0] at H
   by_cases c4 : x12_1 = true
   ·subst c4
    have H1 : (some (0, false)) = some (r1, r2) := by rw [if_pos rfl] at H; exact H
    clear H
    have H := H1
    clear H1
    simp only [Option.some.injEq, Prod.mk.injEq] at H
    obtain ⟨rfl, rfl⟩ := H
    go_wp2
    go_ret2
    exact ⟨by first | rfl | (simp; done) | (simp [*]; done), by repeat (first | exact Drawn0.refl _ | apply Drawn0.step)⟩
   ·replace c4 := Bool.eq_false_iff.mpr c4
    subst c4
    have H1 : (moment_digits.l0 kj1 a0 0 (a0.size : Int) 0) = some (r1, r2) := by rw [if_neg (show ¬ (false = true) by decide)] at H; exact H
    clear H
    have H := H1
    clear H1
    have H' := Aside0.mk H
    clear H
    go_wp2
    go_loopg [4, 15] kj1 (fun kq v4 v15 w' => ∃ (x4_2 : Int) (x15_2 : Int), v4 = .int .i64 x4_2 ∧ v15 = .int .i64 x15_2 ∧ Aside0 (moment_digits.l0 kq a0 x4_2 (a0.size : Int) x15_2 = some (r1, r2)) ∧ Aside0 (kq ≤ kj1) ∧ Drawn0 w w')
    case atStart => exact ⟨(0), (0), (by first | rfl | (simp; done) | (simp [*]; done)), (by first | rfl | (simp; done) | (simp [*]; done)), H', ⟨Nat.le_refl _⟩, by repeat (first | exact Drawn0.refl _ | apply Drawn0.step)⟩
    case round =>
     clear H'
     try clear c1
     try clear p2
     try clear c3
     try clear c3b0
     try clear c3b1
     try clear c4
     try clear p2
     obtain ⟨x4_2, x15_2, rfl, rfl, HA, HK2, ⟨m2, rfl⟩⟩ := hrel
     cases gk with
     | zero => exact absurd HA.out (by simp [moment_digits.l0])
     | succ k2 =>
      have H := HA.out
      clear HA
      simp only [moment_digits.l0] at H
      by_cases c5 : x15_2 < (a0.size : Int)
      ·rw [if_pos c5] at H
       have c5b0 : decide (x15_2 < (a0.size : Int)) = true := decide_eq_true c5
       clear c5
       by_cases c6 : 0 ≤ x15_2
       ·rw [if_pos c6] at H
        have c6b0 : decide (0 ≤ x15_2) = true := decide_eq_true c6
        clear c6
        by_cases c7 : x15_2 < (a0.size : Int)
        ·rw [if_pos c7] at H
         have c7b0 : decide (x15_2 < (a0.size : Int)) = true := decide_eq_true c7
         clear c7
         by_cases c9 : (bt a0 x15_2) < 48
         ·rw [if_pos c9] at H
          have c9b0 : decide ((bt a0 x15_2) < 48) = true := decide_eq_true c9
          clear c9
          simp only [Option.some.injEq, Prod.mk.injEq] at H
          obtain ⟨rfl, rfl⟩ := H
          have p8 : 0 ≤ (x15_2 : Int) := of_decide_eq_true (by first | (with_reducible assumption) | assumption)
          have q8 : x15_2 < (a0.size : Int) := of_decide_eq_true (by first | (with_reducible assumption) | assumption)
          have hx8 := bt_at a0 x15_2
          replace p8 := eq_true p8
          replace q8 := eq_true q8
          go_wp2
          go_ret2
          exact ⟨by first | rfl | (simp; done) | (simp [*]; done), by repeat (first | exact Drawn0.refl _ | apply Drawn0.step)⟩
         ·rw [if_neg c9] at H
          have c9b0 : decide ((bt a0 x15_2) < 48) = false := decide_eq_false c9
          clear c9
          by_cases c11 : (bt a0 x15_2) > 57
          ·rw [if_pos c11] at H
           have c11b0 : decide (57 < (bt a0 x15_2)) = true := decide_eq_true c11
           clear c11
           simp only [Option.some.injEq, Prod.mk.injEq] at H
           obtain ⟨rfl, rfl⟩ := H
           have p8 : 0 ≤ (x15_2 : Int) := of_decide_eq_true (by first | (with_reducible assumption) | assumption)
           have q8 : x15_2 < (a0.size : Int) := of_decide_eq_true (by first | (with_reducible assumption) | assumption)
           have hx8 := bt_at a0 x15_2
           replace p8 := eq_true p8
           replace q8 := eq_true q8
           have p10 : 0 ≤ (x15_2 : Int) := of_decide_eq_true (by first | (with_reducible assumption) | assumption)
           have q10 : x15_2 < (a0.size : Int) := of_decide_eq_true (by first | (with_reducible assumption) | assumption)
           have hx10 := bt_at a0 x15_2
           replace p10 := eq_true p10
           replace q10 := eq_true q10
           go_wp2
           go_ret2
           exact ⟨by first | rfl | (simp; done) | (simp [*]; done), by repeat (first | exact Drawn0.refl _ | apply Drawn0.step)⟩
          ·rw [if_neg c11] at H
           have c11b0 : decide (57 < (bt a0 x15_2)) = false := decide_eq_false c11
           clear c11
           have H' := Aside0.mk H
           clear H
           have p8 : 0 ≤ (x15_2 : Int) := of_decide_eq_true (by first | (with_reducible assumption) | assumption)
           have q8 : x15_2 < (a0.size : Int) := of_decide_eq_true (by first | (with_reducible assumption) | assumption)
           have hx8 := bt_at a0 x15_2
           replace p8 := eq_true p8
           replace q8 := eq_true q8
           have p10 : 0 ≤ (x15_2 : Int) := of_decide_eq_true (by first | (with_reducible assumption) | assumption)
           have q10 : x15_2 < (a0.size : Int) := of_decide_eq_true (by first | (with_reducible assumption) | assumption)
           have hx10 := bt_at a0 x15_2
           replace p10 := eq_true p10
           replace q10 := eq_true q10
           have p12 : 0 ≤ (x15_2 : Int) := of_decide_eq_true (by first | (with_reducible assumption) | assumption)
           have q12 : x15_2 < (a0.size : Int) := of_decide_eq_true (by first | (with_reducible assumption) | assumption)
           have hx12 := bt_at a0 x15_2
           replace p12 := eq_true p12
           replace q12 := eq_true q12
           go_wp2
           go_roundg k2
           case measure => have := HJ1.out; have := HK2.out; omega
           case rel => exact ⟨(wrap64 ((wrap64 (10 * x4_2)) + (((bt a0 x15_2) - 48) % 256))), (wrap64 (x15_2 + 1)), (by first | rfl | (simp; done) | (simp [*]; done)), (by first | rfl | (simp; done) | (simp [*]; done)), H', ⟨by have := HJ1.out; have := HK2.out; omega⟩, by repeat (first | exact Drawn0.refl _ | apply Drawn0.step)⟩
        ·rw [if_neg c7] at H
         exact absurd H (by simp)
       ·rw [if_neg c6] at H
        exact absurd H (by simp)
      ·rw [if_neg c5] at H
       have c5b0 : decide (x15_2 < (a0.size : Int)) = false := decide_eq_false c5
       clear c5
       simp only [Option.some.injEq, Prod.mk.injEq] at H
       obtain ⟨rfl, rfl⟩ := H
       go_wp2
       go_ret2
       exact ⟨by first | rfl | (simp; done) | (simp [*]; done), by repeat (first | exact Drawn0.refl _ | apply Drawn0.step)⟩
def moment_below.f (k : Nat) (a0 : ByteArray) (a1 : Int) : Option (Int × Bool) := (moment_digits.f k a0).bind fun bt117 => (if bt117.2 = true then (if (a0.size : Int) = 2 then (some (bt117.1, decide (bt117.1 ≤ a1))) else (some (bt117.1, false))) else (some (bt117.1, false)))
set_option maxHeartbeats 8000000 in
set_option maxRecDepth 100000 in
theorem moment_below.calls (k : Nat) (a0 : ByteArray) (a1 : Int) (r1 : Int) (r2 : Bool) (w : World) (h : moment_below.f k a0 a1 = some (r1, r2)) :
  Calls Tryd.prog 70 #[.string a0, .int .i64 a1] w fun e w' => e = .returned (.tuple #[.int .i64 r1, .bool r2]) ∧ Drawn0 w w' := by
 have H : ((moment_digits.f k a0).bind fun bt117 => (if bt117.2 = true then (if (a0.size : Int) = 2 then (some (bt117.1, decide (bt117.1 ≤ a1))) else (some (bt117.1, false))) else (some (bt117.1, false)))) = some (r1, r2) := h
 clear h
 replace H := Option.bind_eq_some_iff.mp H
 obtain ⟨⟨t117, t118⟩, A30, H⟩ := H
 replace H : (if t118 = true then (if (a0.size : Int) = 2 then (some (t117, decide (t117 ≤ a1))) else (some (t117, false))) else (some (t117, false))) = some (r1, r2) := H
 have A3 := Aside0.mk A30
 clear A30
 refine (Classical.em (t118 = true)).elim (fun c4 => ?p4) (fun c4 => ?n4)
 case' p4 =>
  subst c4
  have H1 : (if (a0.size : Int) = 2 then (some (t117, decide (t117 ≤ a1))) else (some (t117, false))) = some (r1, r2) := by rw [if_pos rfl] at H; exact H
  clear H
  have H := H1
  clear H1
  refine (Classical.em ((a0.size : Int) = 2)).elim (fun c5 => ?p5) (fun c5 => ?n5)
  case' p5 =>
   rw [if_pos c5] at H
   have c5b0 : ((a0.size : Int) == 2) = true := beq_iff_eq.mpr c5
   have c5b1 : ((a0.size : Int) != 2) = false := bne_eq_false_iff_eq.mpr c5
   clear c5
   simp only [Option.some.injEq, Prod.mk.injEq] at H
   obtain ⟨rfl, rfl⟩ := H
  case' n5 =>
   rw [if_neg c5] at H
   have c5b0 : ((a0.size : Int) == 2) = false := beq_eq_false_iff_ne.mpr c5
   have c5b1 : ((a0.size : Int) != 2) = true := bne_iff_ne.mpr c5
   simp only [Option.some.injEq, Prod.mk.injEq] at H
   obtain ⟨rfl, rfl⟩ := H
 case' n4 =>
  replace c4 := Bool.eq_false_iff.mpr c4
  subst c4
  have H1 : (some (t117, false)) = some (r1, r2) := by rw [if_neg (show ¬ (false = true) by decide)] at H; exact H
  clear H
  have H := H1
  clear H1
  simp only [Option.some.injEq, Prod.mk.injEq] at H
  obtain ⟨rfl, rfl⟩ := H
 all_goals
  go_enter Tryd.func70, Tryd.ntmps70
  go_wp2_with (first | ((with_reducible refine gate_callee (f := 68) rfl ?_); refine goesL_ (some 10) rfl rfl Tryd.func68 (by kernel_rfl) rfl #[.string a0] rfl (by (try simp only [List.map_toArray, List.map_cons, List.map_nil]); first | done | rfl) ?_; (with_reducible refine (moment_digits.calls k a0 t117 _ _ A3.out).mono ?_); rintro e w' ⟨rfl, ⟨nd, rfl⟩⟩; refine ⟨_, rfl, ?_⟩))
  go_ret2
  exact ⟨by first | rfl | (simp; done) | (simp [*]; done), by repeat (first | exact Drawn0.refl _ | apply Drawn0.step)⟩
end Go.Proofs.YtjlchnmpebdggaaDoor.Mo
end
section
namespace Go.Proofs.YtjlchnmpebdggaaDoor.Mo
open Go.RowKit Go.Proofs.YtjlchnmpebdggaaDoorW.PrintWords Go.Proofs.YtjlchnmpebdggaaDoorW.PrintLast Go.Proofs.YtjlchnmpebdggaaDoorW.PrintMore
attribute [local go_sem] max2_int min2_int max_two min_two max_three min_three max_four min_four   -- for this text's walks alone
set_option linter.unusedVariables false
set_option linter.unusedSimpArgs false
def moment_refused.f (a0_0 : Int) (a0_1 : Int) (a0_2 : Int) (a0_3 : Int) (a0_4 : Int) (a0_5 : Int) (a0_6 : Int) : Option (Int) := (moment_isDay.f a0_0 a0_1 a0_2 a0_3 a0_4 a0_5 a0_6).bind fun t135 => (if t135 = true then ((moment_Valid.f a0_0 a0_1 a0_2 a0_3 a0_4 a0_5 a0_6).bind fun t136 => (if t136 = true then (some 0) else (some 20))) else (some 21))
set_option maxHeartbeats 8000000 in
set_option maxRecDepth 100000 in
theorem moment_refused.calls (a0_0 : Int) (a0_1 : Int) (a0_2 : Int) (a0_3 : Int) (a0_4 : Int) (a0_5 : Int) (a0_6 : Int) (r : Int) (w : World) (h : moment_refused.f a0_0 a0_1 a0_2 a0_3 a0_4 a0_5 a0_6 = some r) (hL_ : Laid w) :
  Calls Tryd.prog 63 #[.agg #[.int .i64 a0_0, .int .i64 a0_1, .int .i64 a0_2, .int .i64 a0_3, .int .i64 a0_4, .int .i64 a0_5, .int .i64 a0_6]] w fun e w' => e = .returned (.int .i64 r) ∧ Below w.heap.size w w' := by
 have HL_ := Aside0.mk hL_
 clear hL_
 have hu23 := Tryd.underlying23
 have HB := Aside0.mk (Below.refl w.heap.size w)
 have H : ((moment_isDay.f a0_0 a0_1 a0_2 a0_3 a0_4 a0_5 a0_6).bind fun t135 => (if t135 = true then ((moment_Valid.f a0_0 a0_1 a0_2 a0_3 a0_4 a0_5 a0_6).bind fun t136 => (if t136 = true then (some 0) else (some 20))) else (some 21))) = some r := h
 clear h
 replace H := Option.bind_eq_some_iff.mp H
 obtain ⟨t135, A20, H⟩ := H
 replace H : (if t135 = true then ((moment_Valid.f a0_0 a0_1 a0_2 a0_3 a0_4 a0_5 a0_6).bind fun t136 => (if t136 = true then (some 0) else (some 20))) else (some 21)) = some r := H
 have A2 := Aside0.mk A20
 clear A20
 refine (Classical.em (t135 = true)).elim (fun c3 => ?p3) (fun c3 => ?n3)
 case' p3 =>
  subst c3
  have H1 : ((moment_Valid.f a0_0 a0_1 a0_2 a0_3 a0_4 a0_5 a0_6).bind fun t136 => (if t136 = true then (some 0) else (some 20))) = some r := by rw [if_pos rfl] at H; exact H
  clear H
  have H := H1
  clear H1
  replace H := Option.bind_eq_some_iff.mp H
  obtain ⟨t136, A40, H⟩ := H
  replace H : (if t136 = true then (some 0) else (some 20)) = some r := H
  have A4 := Aside0.mk A40
  clear A40
  refine (Classical.em (t136 = true)).elim (fun c5 => ?p5) (fun c5 => ?n5)
  case' p5 =>
   subst c5
   have H1 : (some 0) = some r := by rw [if_pos rfl] at H; exact H
   clear H
   have H := H1
   clear H1
   obtain rfl := Option.some.inj H
  case' n5 =>
   replace c5 := Bool.eq_false_iff.mpr c5
   subst c5
   have H1 : (some 20) = some r := by rw [if_neg (show ¬ (false = true) by decide)] at H; exact H
   clear H
   have H := H1
   clear H1
   obtain rfl := Option.some.inj H
 case' n3 =>
  replace c3 := Bool.eq_false_iff.mpr c3
  subst c3
  have H1 : (some 21) = some r := by rw [if_neg (show ¬ (false = true) by decide)] at H; exact H
  clear H
  have H := H1
  clear H1
  obtain rfl := Option.some.inj H
 all_goals
  go_enter Tryd.func63, Tryd.ntmps63
  go_wp2_with (first | ((with_reducible refine gate_dst (N := 1) rfl ?_); refine box_event ?hg (N := 1) ?hd (cs := #[.int .i64 a0_0, .int .i64 a0_1, .int .i64 a0_2, .int .i64 a0_3, .int .i64 a0_4, .int .i64 a0_5, .int .i64 a0_6]) (t := 23) ?hr ?_; (case hd => rfl); (case hg => rfl); (case hr => first | (go_simp; done) | (go_simp; rfl)); intro gb134 hg w11 hbox hb; have n0_ := Aside0.mk (below_step (by repeat (first | (with_reducible first | exact HB.out | apply below_alloc | apply pw_below_drewN | apply below_drew1) | exact HB.out)) hb); have n1_ := Aside0.mk (hbox); have n2_ := Aside0.mk ((by rw [hg]; exact (below_size (by repeat (first | (with_reducible first | exact HB.out | apply below_alloc | apply pw_below_drewN | apply below_drew1) | exact HB.out))) : w.heap.size ≤ gb134)); have n3_ := Aside0.mk ((by rw [hg]; exact (below_size (by repeat (first | (with_reducible first | exact HB.out | apply below_alloc | apply pw_below_drewN | apply below_drew1) | exact HB.out))) : w.heap.size ≤ gb134)); clear HB; have HB := n0_; have BK134 := n1_; have GW134 := n2_; have GE134 := n3_; clear n0_ n1_ n2_ n3_; clear hb hbox hg; have hcz12_0 : w11.cell? ⟨gb134, 0, none⟩ = some (.int .i64 a0_0) := (blk_cell BK134.out 0).trans rfl; have hcz12_1 : w11.cell? ⟨gb134, 1, none⟩ = some (.int .i64 a0_1) := (blk_cell BK134.out 1).trans rfl; have hcz12_2 : w11.cell? ⟨gb134, 2, none⟩ = some (.int .i64 a0_2) := (blk_cell BK134.out 2).trans rfl; have hcz12_3 : w11.cell? ⟨gb134, 3, none⟩ = some (.int .i64 a0_3) := (blk_cell BK134.out 3).trans rfl; have hcz12_4 : w11.cell? ⟨gb134, 4, none⟩ = some (.int .i64 a0_4) := (blk_cell BK134.out 4).trans rfl; have hcz12_5 : w11.cell? ⟨gb134, 5, none⟩ = some (.int .i64 a0_5) := (blk_cell BK134.out 5).trans rfl; have hcz12_6 : w11.cell? ⟨gb134, 6, none⟩ = some (.int .i64 a0_6) := (blk_cell BK134.out 6).trans rfl; have hfz12_0 := blk_frozen BK134.out 0; have hfz12_1 := blk_frozen BK134.out 1; have hfz12_2 := blk_frozen BK134.out 2; have hfz12_3 := blk_frozen BK134.out 3; have hfz12_4 := blk_frozen BK134.out 4; have hfz12_5 := blk_frozen BK134.out 5; have hfz12_6 := blk_frozen BK134.out 6) | ((with_reducible refine gate_callee (f := 46) rfl ?_); refine goesL_ (some 5) rfl rfl Tryd.func46 (by kernel_rfl) rfl #[.agg #[.int .i64 a0_0, .int .i64 a0_1, .int .i64 a0_2, .int .i64 a0_3, .int .i64 a0_4, .int .i64 a0_5, .int .i64 a0_6]] rfl (by (try simp only [List.map_toArray, List.map_cons, List.map_nil]); first | done | rfl) ?_; (with_reducible refine (moment_isDay.calls a0_0 a0_1 a0_2 a0_3 a0_4 a0_5 a0_6 _ _ A2.out (by first | exact laid_below HL_.out (by repeat (first | (with_reducible first | exact HB.out | apply below_alloc | apply pw_below_drewN | apply below_drew1) | exact HB.out)) | exact laid_drawn HL_.out (by repeat (first | exact Drawn0.refl _ | apply Drawn0.step)))).mono ?_); rintro e w13 ⟨rfl, hb⟩; refine ⟨_, rfl, ?_⟩; have n0_ := Aside0.mk (blk_below (g := gb134) (o := .cells #[.int .i64 a0_0, .int .i64 a0_1, .int .i64 a0_2, .int .i64 a0_3, .int .i64 a0_4, .int .i64 a0_5, .int .i64 a0_6] 23 (0, 0)) (by (with_reducible repeat first | refine blk_drewN ?_ _ | refine blk_alloc ?_ _); exact BK134.out) hb); have n1_ := Aside0.mk (below_step (by repeat (first | (with_reducible first | exact HB.out | apply below_alloc | apply pw_below_drewN | apply below_drew1 | refine below_set ?_ GE134.out) | exact HB.out)) hb); clear BK134; clear HB; have BK134 := n0_; have HB := n1_; clear n0_ n1_; (try clear hb); (try clear hb2); (try clear hk); (try clear hi); have hcz14_0 : w13.cell? ⟨gb134, 0, none⟩ = some (.int .i64 a0_0) := (blk_cell BK134.out 0).trans rfl; have hcz14_1 : w13.cell? ⟨gb134, 1, none⟩ = some (.int .i64 a0_1) := (blk_cell BK134.out 1).trans rfl; have hcz14_2 : w13.cell? ⟨gb134, 2, none⟩ = some (.int .i64 a0_2) := (blk_cell BK134.out 2).trans rfl; have hcz14_3 : w13.cell? ⟨gb134, 3, none⟩ = some (.int .i64 a0_3) := (blk_cell BK134.out 3).trans rfl; have hcz14_4 : w13.cell? ⟨gb134, 4, none⟩ = some (.int .i64 a0_4) := (blk_cell BK134.out 4).trans rfl; have hcz14_5 : w13.cell? ⟨gb134, 5, none⟩ = some (.int .i64 a0_5) := (blk_cell BK134.out 5).trans rfl; have hcz14_6 : w13.cell? ⟨gb134, 6, none⟩ = some (.int .i64 a0_6) := (blk_cell BK134.out 6).trans rfl; have hfz14_0 := blk_frozen BK134.out 0; have hfz14_1 := blk_frozen BK134.out 1; have hfz14_2 := blk_frozen BK134.out 2; have hfz14_3 := blk_frozen BK134.out 3; have hfz14_4 := blk_frozen BK134.out 4; have hfz14_5 := blk_frozen BK134.out 5; have hfz14_6 := blk_frozen BK134.out 6) | ((with_reducible refine gate_callee (f := 19) rfl ?_); refine goesL_ (some 9) rfl rfl Tryd.func19 (by kernel_rfl) rfl #[.agg #[.int .i64 a0_0, .int .i64 a0_1, .int .i64 a0_2, .int .i64 a0_3, .int .i64 a0_4, .int .i64 a0_5, .int .i64 a0_6]] rfl (by (try simp only [List.map_toArray, List.map_cons, List.map_nil]); first | done | rfl) ?_; (with_reducible refine (moment_Valid.calls a0_0 a0_1 a0_2 a0_3 a0_4 a0_5 a0_6 _ _ A4.out (by first | exact laid_below HL_.out (by repeat (first | (with_reducible first | exact HB.out | apply below_alloc | apply pw_below_drewN | apply below_drew1) | exact HB.out)) | exact laid_drawn HL_.out (by repeat (first | exact Drawn0.refl _ | apply Drawn0.step)))).mono ?_); rintro e w15 ⟨rfl, hb⟩; refine ⟨_, rfl, ?_⟩; have n0_ := Aside0.mk (blk_below (g := gb134) (o := .cells #[.int .i64 a0_0, .int .i64 a0_1, .int .i64 a0_2, .int .i64 a0_3, .int .i64 a0_4, .int .i64 a0_5, .int .i64 a0_6] 23 (0, 0)) (by (with_reducible repeat first | refine blk_drewN ?_ _ | refine blk_alloc ?_ _); exact BK134.out) hb); have n1_ := Aside0.mk (below_step (by repeat (first | (with_reducible first | exact HB.out | apply below_alloc | apply pw_below_drewN | apply below_drew1 | refine below_set ?_ GE134.out) | exact HB.out)) hb); clear BK134; clear HB; have BK134 := n0_; have HB := n1_; clear n0_ n1_; (try clear hb); (try clear hb2); (try clear hk); (try clear hi)))
  go_ret
  exact ⟨by first | rfl | (simp [errW_none, errW_some] <;> rfl) | (simp [*, errW_none, errW_some] <;> rfl), by repeat (first | (with_reducible first | exact HB.out | apply below_alloc | apply pw_below_drewN | apply below_drew1 | refine below_set ?_ GE134.out) | exact HB.out)⟩
end Go.Proofs.YtjlchnmpebdggaaDoor.Mo
end
section
namespace Go.Proofs.YtjlchnmpebdggaaDoor.Mo
open Go.RowKit Go.Proofs.YtjlchnmpebdggaaDoorW.PrintWords Go.Proofs.YtjlchnmpebdggaaDoorW.PrintLast Go.Proofs.YtjlchnmpebdggaaDoorW.PrintMore
attribute [local go_sem] max2_int min2_int max_two min_two max_three min_three max_four min_four   -- for this text's walks alone
set_option linter.unusedVariables false
set_option linter.unusedSimpArgs false
def moment_two.f (a0 : Int) : Option (ByteArray) := some (strOfNums (([(wrap64 (48 + (wrap64 (Int.tdiv a0 10)))) % 256, (wrap64 (48 + (Int.tmod a0 10))) % 256] : List Int)))
set_option maxHeartbeats 8000000 in
set_option maxRecDepth 100000 in
theorem moment_two.calls (a0 : Int) (r : ByteArray) (w : World) (h : moment_two.f a0 = some r) :
  Calls Tryd.prog 87 #[.int .i64 a0] w fun e w' => e = .returned (.string r) ∧ Below w.heap.size w w' := by
 have HB := Aside0.mk (Below.refl w.heap.size w)
 have H : (some (strOfNums (([(wrap64 (48 + (wrap64 (Int.tdiv a0 10)))) % 256, (wrap64 (48 + (Int.tmod a0 10))) % 256] : List Int)))) = some r := h
 clear h
 obtain ⟨y128, hy128⟩ : ∃ y_ : List Int, y_ = (([(wrap64 (48 + (wrap64 (Int.tdiv a0 10)))) % 256, (wrap64 (48 + (Int.tmod a0 10))) % 256] : List Int)) := ⟨_, rfl⟩
 replace H : (some (strOfNums y128)) = some r := by first | (rw [hy128]; with_reducible exact H) | (have H2_ := (Option.bind_some _ _).symm.trans H; rw [hy128]; with_reducible exact H2_) | (have H2_ := (Option.bind_some _ _).symm.trans H; with_reducible exact H2_) | with_reducible exact H | (rw [hy128]; exact H) | exact H
 have Ny128 := Aside0.mk hy128
 clear hy128
 obtain rfl := Option.some.inj H
 go_enter Tryd.func87, Tryd.ntmps87
 go_wp2_with (first | ((with_reducible refine gate_dst (N := 11) rfl ?_); refine Kd.R_lit (Kd.int .u8) _ 5 ?hg (N := 11) ?hd (xs := ([(wrap64 (48 + (wrap64 (Int.tdiv a0 10)))) % 256, (wrap64 (48 + (Int.tmod a0 10))) % 256] : List Int)) (inner := [.int .u8 ((wrap64 (48 + (wrap64 (Int.tdiv a0 10)))) % 256), .int .u8 ((wrap64 (48 + (Int.tmod a0 10))) % 256)]) (ok := fun _ => True) (okp := fun _ => True) ?hr ?hp (fun _ hk => hk) trivial (Below.refl _ _) (Nat.le_refl _) (by simp) ?_; (case hd => rfl); (case hg => rfl); (case hr => first | (go_simp; done) | (go_simp; rfl)); (case hp => exact (Reps.one (show Kd.M (Kd.int .u8) _ _ _ ((wrap64 (48 + (wrap64 (Int.tdiv a0 10)))) % 256) [.int .u8 ((wrap64 (48 + (wrap64 (Int.tdiv a0 10)))) % 256)] from rfl) (Reps.one (show Kd.M (Kd.int .u8) _ _ _ ((wrap64 (48 + (Int.tmod a0 10))) % 256) [.int .u8 ((wrap64 (48 + (Int.tmod a0 10))) % 256)] from rfl) (Reps.none _ _)))); intro v129 w2 ho3 hb hg_ hnew_; clear hg_ hnew_; (first | rw [← Ny128.out] at ho3 | (simp only [Int.reduceToNat] at ho3; rw [← Ny128.out] at ho3)); have n0_ := Aside0.mk (Kd.R_lower ho3 (below_size (by repeat (first | (with_reducible first | exact HB.out | apply below_alloc | apply pw_below_drewN | apply below_drew1) | exact HB.out)))); have n1_ := Aside0.mk (below_step (by repeat (first | (with_reducible first | exact HB.out | apply below_alloc | apply pw_below_drewN | apply below_drew1) | exact HB.out)) hb); clear HB; have HO130 := n0_; have HB := n1_; clear n0_ n1_; clear hb ho3; have hcv4 := own_string (P := Tryd.prog) Tryd.underlying58 Tryd.underlying5 Tryd.underlying9 (Kd.own_of_R HO130.out)))
 go_ret
 exact ⟨by first | rfl | (simp [errW_none, errW_some] <;> rfl) | (simp [*, errW_none, errW_some] <;> rfl), by repeat (first | (with_reducible first | exact HB.out | apply below_alloc | apply pw_below_drewN | apply below_drew1) | exact HB.out)⟩
def moment_plain.f (a0 : Int) : Option (ByteArray) := (moment_two.f a0).bind fun t131 => (if 0 < (t131.size : Int) then (if (bt t131 0) = 48 then (if 1 ≤ (t131.size : Int) then (some (t131.extract 1 t131.size)) else (none)) else (some t131)) else (none))
set_option maxHeartbeats 8000000 in
set_option maxRecDepth 100000 in
theorem moment_plain.calls (a0 : Int) (r : ByteArray) (w : World) (h : moment_plain.f a0 = some r) :
  Calls Tryd.prog 49 #[.int .i64 a0] w fun e w' => e = .returned (.string r) ∧ Below w.heap.size w w' := by
 have HB := Aside0.mk (Below.refl w.heap.size w)
 have H : ((moment_two.f a0).bind fun t131 => (if 0 < (t131.size : Int) then (if (bt t131 0) = 48 then (if 1 ≤ (t131.size : Int) then (some (t131.extract 1 t131.size)) else (none)) else (some t131)) else (none))) = some r := h
 clear h
 replace H := Option.bind_eq_some_iff.mp H
 obtain ⟨t131, A20, H⟩ := H
 replace H : (if 0 < (t131.size : Int) then (if (bt t131 0) = 48 then (if 1 ≤ (t131.size : Int) then (some (t131.extract 1 t131.size)) else (none)) else (some t131)) else (none)) = some r := H
 have A2 := Aside0.mk A20
 clear A20
 refine (Classical.em (0 < (t131.size : Int))).elim (fun c3 => ?p3) (fun c3 => ?n3)
 case' p3 =>
  rw [if_pos c3] at H
  have c3b0 : decide (0 < (t131.size : Int)) = true := decide_eq_true c3
  have c3b1 : decide (0 < t131.size) = true := decide_eq_true (by omega)
  clear c3
  refine (Classical.em ((bt t131 0) = 48)).elim (fun c5 => ?p5) (fun c5 => ?n5)
  case' p5 =>
   rw [if_pos c5] at H
   have c5b0 : ((bt t131 0) == 48) = true := beq_iff_eq.mpr c5
   have c5b1 : ((bt t131 0) != 48) = false := bne_eq_false_iff_eq.mpr c5
   clear c5
   refine (Classical.em (1 ≤ (t131.size : Int))).elim (fun c6 => ?p6) (fun c6 => ?n6)
   case' p6 =>
    rw [if_pos c6] at H
    have c6b0 := eq_true c6
    have c6b1 : decide (1 ≤ (t131.size : Int)) = true := decide_eq_true c6
    clear c6
    obtain rfl := Option.some.inj H
   case' n6 =>
    rw [if_neg c6] at H
    exact absurd H (by simp)
  case' n5 =>
   rw [if_neg c5] at H
   have c5b0 : ((bt t131 0) == 48) = false := beq_eq_false_iff_ne.mpr c5
   have c5b1 : ((bt t131 0) != 48) = true := bne_iff_ne.mpr c5
   obtain rfl := Option.some.inj H
 case' n3 =>
  rw [if_neg c3] at H
  exact absurd H (by simp)
 all_goals
  go_enter Tryd.func49, Tryd.ntmps49
  go_wp2_with (first | ((with_reducible refine gate_callee (f := 87) rfl ?_); refine goesL_ (some 5) rfl rfl Tryd.func87 (by kernel_rfl) rfl #[.int .i64 a0] rfl (by (try simp only [List.map_toArray, List.map_cons, List.map_nil]); first | done | rfl) ?_; (with_reducible refine (moment_two.calls a0 t131 _ A2.out).mono ?_); rintro e w7 ⟨rfl, hb⟩; refine ⟨_, rfl, ?_⟩; have n0_ := Aside0.mk (below_step (by repeat (first | (with_reducible first | exact HB.out | apply below_alloc | apply pw_below_drewN | apply below_drew1) | exact HB.out)) hb); clear HB; have HB := n0_; clear n0_; (try clear hb); (try clear hb2); (try clear hk); (try clear hi); have p4 : 0 ≤ (0 : Int) := (by omega); have q4 : 0 < t131.size := (by have : (0 : Int) < (t131.size : Int) := of_decide_eq_true (by first | (with_reducible assumption) | assumption); omega); have hx4 : ∀ h : 0 < t131.size, ((t131[0]'h).toNat : Int) = bt t131 0 := bt_at t131 0; clear p4; have qi4 : (0 < (t131.size : Int)) = True := eq_true (of_decide_eq_true (by first | (with_reducible assumption) | assumption)); replace q4 := eq_true q4))
  go_ret
  exact ⟨by first | rfl | (simp [errW_none, errW_some] <;> rfl) | (simp [*, errW_none, errW_some] <;> rfl), by repeat (first | (with_reducible first | exact HB.out | apply below_alloc | apply pw_below_drewN | apply below_drew1) | exact HB.out)⟩
def moment_four.f (a0 : Int) : Option (ByteArray) := (moment_two.f (wrap64 (Int.tdiv a0 100))).bind fun t132 => ((moment_two.f (Int.tmod a0 100)).bind fun t133 => (if t132.size + t133.size ≤ 9223372036854775807 then (some (t132 ++ t133)) else (none)))
set_option maxHeartbeats 8000000 in
set_option maxRecDepth 100000 in
theorem moment_four.calls (a0 : Int) (r : ByteArray) (w : World) (h : moment_four.f a0 = some r) :
  Calls Tryd.prog 67 #[.int .i64 a0] w fun e w' => e = .returned (.string r) ∧ Below w.heap.size w w' := by
 have HB := Aside0.mk (Below.refl w.heap.size w)
 have H : ((moment_two.f (wrap64 (Int.tdiv a0 100))).bind fun t132 => ((moment_two.f (Int.tmod a0 100)).bind fun t133 => (if t132.size + t133.size ≤ 9223372036854775807 then (some (t132 ++ t133)) else (none)))) = some r := h
 clear h
 replace H := Option.bind_eq_some_iff.mp H
 obtain ⟨t132, A20, H⟩ := H
 replace H : ((moment_two.f (Int.tmod a0 100)).bind fun t133 => (if t132.size + t133.size ≤ 9223372036854775807 then (some (t132 ++ t133)) else (none))) = some r := H
 have A2 := Aside0.mk A20
 clear A20
 replace H := Option.bind_eq_some_iff.mp H
 obtain ⟨t133, A30, H⟩ := H
 replace H : (if t132.size + t133.size ≤ 9223372036854775807 then (some (t132 ++ t133)) else (none)) = some r := H
 have A3 := Aside0.mk A30
 clear A30
 by_cases c4 : t132.size + t133.size ≤ 9223372036854775807
 ·rw [if_pos c4] at H
  have c4b0 := eq_true c4
  have c4b1 : decide (t132.size + t133.size ≤ 9223372036854775807) = true := decide_eq_true c4
  try have c4b2 : (9223372036854775807 < t132.size + t133.size) = False := eq_false (Nat.not_lt.2 c4)
  obtain rfl := Option.some.inj H
  go_enter Tryd.func67, Tryd.ntmps67
  go_wp2_with (first | ((with_reducible refine gate_callee (f := 87) rfl ?_); refine goesL_ (some 5) rfl rfl Tryd.func87 (by kernel_rfl) rfl #[.int .i64 (wrap64 (Int.tdiv a0 100))] rfl (by (try simp only [List.map_toArray, List.map_cons, List.map_nil]); first | done | rfl) ?_; (with_reducible refine (moment_two.calls (wrap64 (Int.tdiv a0 100)) t132 _ A2.out).mono ?_); rintro e w5 ⟨rfl, hb⟩; refine ⟨_, rfl, ?_⟩; have n0_ := Aside0.mk (below_step (by repeat (first | (with_reducible first | exact HB.out | apply below_alloc | apply pw_below_drewN | apply below_drew1) | exact HB.out)) hb); clear HB; have HB := n0_; clear n0_; (try clear hb); (try clear hb2); (try clear hk); (try clear hi)) | ((with_reducible refine gate_callee (f := 87) rfl ?_); refine goesL_ (some 8) rfl rfl Tryd.func87 (by kernel_rfl) rfl #[.int .i64 (Int.tmod a0 100)] rfl (by (try simp only [List.map_toArray, List.map_cons, List.map_nil]); first | done | rfl) ?_; (with_reducible refine (moment_two.calls (Int.tmod a0 100) t133 _ A3.out).mono ?_); rintro e w6 ⟨rfl, hb⟩; refine ⟨_, rfl, ?_⟩; have n0_ := Aside0.mk (below_step (by repeat (first | (with_reducible first | exact HB.out | apply below_alloc | apply pw_below_drewN | apply below_drew1) | exact HB.out)) hb); clear HB; have HB := n0_; clear n0_; (try clear hb); (try clear hb2); (try clear hk); (try clear hi)))
  go_ret
  exact ⟨by first | rfl | (simp [errW_none, errW_some] <;> rfl) | (simp [*, errW_none, errW_some] <;> rfl), by repeat (first | (with_reducible first | exact HB.out | apply below_alloc | apply pw_below_drewN | apply below_drew1) | exact HB.out)⟩
 ·rw [if_neg c4] at H
  exact absurd H (by simp)
end Go.Proofs.YtjlchnmpebdggaaDoor.Mo
end
section
namespace Go.Proofs.YtjlchnmpebdggaaDoor.Mo
open Go.RowKit Go.Proofs.YtjlchnmpebdggaaDoorW.PrintWords
def monthL : List ByteArray := [⟨#[74, 97, 110]⟩, ⟨#[70, 101, 98]⟩, ⟨#[77, 97, 114]⟩, ⟨#[65, 112, 114]⟩, ⟨#[77, 97, 121]⟩, ⟨#[74, 117, 110]⟩, ⟨#[74, 117, 108]⟩, ⟨#[65, 117, 103]⟩, ⟨#[83, 101, 112]⟩, ⟨#[79, 99, 116]⟩, ⟨#[78, 111, 118]⟩, ⟨#[68, 101, 99]⟩]
def weekL : List ByteArray := [⟨#[83, 117, 110]⟩, ⟨#[77, 111, 110]⟩, ⟨#[84, 117, 101]⟩, ⟨#[87, 101, 100]⟩, ⟨#[84, 104, 117]⟩, ⟨#[70, 114, 105]⟩, ⟨#[83, 97, 116]⟩]
theorem months_calls (w : World) : Calls Tryd.prog 66 #[] w fun e w' => e = .returned (.agg #[.string ⟨#[74, 97, 110]⟩, .string ⟨#[70, 101, 98]⟩, .string ⟨#[77, 97, 114]⟩, .string ⟨#[65, 112, 114]⟩, .string ⟨#[77, 97, 121]⟩, .string ⟨#[74, 117, 110]⟩, .string ⟨#[74, 117, 108]⟩, .string ⟨#[65, 117, 103]⟩, .string ⟨#[83, 101, 112]⟩, .string ⟨#[79, 99, 116]⟩, .string ⟨#[78, 111, 118]⟩, .string ⟨#[68, 101, 99]⟩]) ∧ Below w.heap.size w w' := by
  go_enter Tryd.func66, Tryd.ntmps66
  go_wp2
  exact bodyPost_ret (v := .agg #[.string ⟨#[74, 97, 110]⟩, .string ⟨#[70, 101, 98]⟩, .string ⟨#[77, 97, 114]⟩, .string ⟨#[65, 112, 114]⟩, .string ⟨#[77, 97, 121]⟩, .string ⟨#[74, 117, 110]⟩, .string ⟨#[74, 117, 108]⟩, .string ⟨#[65, 117, 103]⟩, .string ⟨#[83, 101, 112]⟩, .string ⟨#[79, 99, 116]⟩, .string ⟨#[78, 111, 118]⟩, .string ⟨#[68, 101, 99]⟩]) (by simp [results, Tryd.results66, go_sem]) rfl ⟨rfl, (Below.refl _ _).alloc (Nat.le_refl _) _⟩
theorem weekdays_calls (w : World) : Calls Tryd.prog 65 #[] w fun e w' => e = .returned (.agg #[.string ⟨#[83, 117, 110]⟩, .string ⟨#[77, 111, 110]⟩, .string ⟨#[84, 117, 101]⟩, .string ⟨#[87, 101, 100]⟩, .string ⟨#[84, 104, 117]⟩, .string ⟨#[70, 114, 105]⟩, .string ⟨#[83, 97, 116]⟩]) ∧ Below w.heap.size w w' := by
  go_enter Tryd.func65, Tryd.ntmps65
  go_wp2
  exact bodyPost_ret (v := .agg #[.string ⟨#[83, 117, 110]⟩, .string ⟨#[77, 111, 110]⟩, .string ⟨#[84, 117, 101]⟩, .string ⟨#[87, 101, 100]⟩, .string ⟨#[84, 104, 117]⟩, .string ⟨#[70, 114, 105]⟩, .string ⟨#[83, 97, 116]⟩]) (by simp [results, Tryd.results65, go_sem]) rfl ⟨rfl, (Below.refl _ _).alloc (Nat.le_refl _) _⟩
theorem month_index (w : World) (n : Nat) (h : n < 12) : (Instr.index 71 (.agg #[.string ⟨#[74, 97, 110]⟩, .string ⟨#[70, 101, 98]⟩, .string ⟨#[77, 97, 114]⟩, .string ⟨#[65, 112, 114]⟩, .string ⟨#[77, 97, 121]⟩, .string ⟨#[74, 117, 110]⟩, .string ⟨#[74, 117, 108]⟩, .string ⟨#[65, 117, 103]⟩, .string ⟨#[83, 101, 112]⟩, .string ⟨#[79, 99, 116]⟩, .string ⟨#[78, 111, 118]⟩, .string ⟨#[68, 101, 99]⟩]) (.int .i64 (n : Int))).run Tryd.prog w = .ok (.string (monthL.getD n ⟨#[]⟩)) w := by
  have : n = 0 ∨ n = 1 ∨ n = 2 ∨ n = 3 ∨ n = 4 ∨ n = 5 ∨ n = 6 ∨ n = 7 ∨ n = 8 ∨ n = 9 ∨ n = 10 ∨ n = 11 := by omega
  rcases this with rfl | rfl | rfl | rfl | rfl | rfl | rfl | rfl | rfl | rfl | rfl | rfl <;> (show _ = _; kernel_rfl)
theorem month_size (n : Nat) (h : n < 12) : (monthL.getD n ⟨#[]⟩).size = 3 := by
  have : n = 0 ∨ n = 1 ∨ n = 2 ∨ n = 3 ∨ n = 4 ∨ n = 5 ∨ n = 6 ∨ n = 7 ∨ n = 8 ∨ n = 9 ∨ n = 10 ∨ n = 11 := by omega
  rcases this with rfl | rfl | rfl | rfl | rfl | rfl | rfl | rfl | rfl | rfl | rfl | rfl <;> rfl
theorem week_size (n : Nat) (h : n < 7) : (weekL.getD n ⟨#[]⟩).size = 3 := by
  have : n = 0 ∨ n = 1 ∨ n = 2 ∨ n = 3 ∨ n = 4 ∨ n = 5 ∨ n = 6 := by omega
  rcases this with rfl | rfl | rfl | rfl | rfl | rfl | rfl <;> rfl
theorem month_cells {w : World} {g t : Nat} (h : w.heap[g]? = some (.cells #[.string ⟨#[74, 97, 110]⟩, .string ⟨#[70, 101, 98]⟩, .string ⟨#[77, 97, 114]⟩, .string ⟨#[65, 112, 114]⟩, .string ⟨#[77, 97, 121]⟩, .string ⟨#[74, 117, 110]⟩, .string ⟨#[74, 117, 108]⟩, .string ⟨#[65, 117, 103]⟩, .string ⟨#[83, 101, 112]⟩, .string ⟨#[79, 99, 116]⟩, .string ⟨#[78, 111, 118]⟩, .string ⟨#[68, 101, 99]⟩] t (0, 0))) (j : Nat) (x : ByteArray) (hx : monthL[j]? = some x) : w.cell? ⟨g, j, none⟩ = some (.string x) := by
  rw [cell_of_row w g j _ t (0, 0) h]
  show ((monthL.map Value.string).toArray)[j]? = _
  rw [List.getElem?_toArray, List.getElem?_map, hx]
  rfl
theorem week_cells {w : World} {g t : Nat} (h : w.heap[g]? = some (.cells #[.string ⟨#[83, 117, 110]⟩, .string ⟨#[77, 111, 110]⟩, .string ⟨#[84, 117, 101]⟩, .string ⟨#[87, 101, 100]⟩, .string ⟨#[84, 104, 117]⟩, .string ⟨#[70, 114, 105]⟩, .string ⟨#[83, 97, 116]⟩] t (0, 0))) (j : Nat) (x : ByteArray) (hx : weekL[j]? = some x) : w.cell? ⟨g, j, none⟩ = some (.string x) := by
  rw [cell_of_row w g j _ t (0, 0) h]
  show ((weekL.map Value.string).toArray)[j]? = _
  rw [List.getElem?_toArray, List.getElem?_map, hx]
  rfl
theorem month_small : ∀ x ∈ monthL, x.size ≤ 1000 := by
  intro x hx
  obtain ⟨n, hn, rfl⟩ := List.getElem_of_mem hx
  have := month_size n hn
  rw [List.getD_eq_getElem?_getD, List.getElem?_eq_getElem hn] at this
  have h2 : (monthL[n]).size = 3 := this
  omega
theorem week_small : ∀ x ∈ weekL, x.size ≤ 1000 := by
  intro x hx
  obtain ⟨n, hn, rfl⟩ := List.getElem_of_mem hx
  have := week_size n hn
  rw [List.getD_eq_getElem?_getD, List.getElem?_eq_getElem hn] at this
  have h2 : (weekL[n]).size = 3 := this
  omega
def twoP (n : Int) : ByteArray := strOfNums [(wrap64 (48 + (wrap64 (Int.tdiv n 10)))) % 256, (wrap64 (48 + (Int.tmod n 10))) % 256]
theorem two_f (n : Int) : moment_two.f n = some (twoP n) := rfl
theorem twoP_size (n : Int) : (twoP n).size = 2 := rfl
def fourP (n : Int) : ByteArray := twoP (wrap64 (Int.tdiv n 100)) ++ twoP (Int.tmod n 100)
theorem four_f (n : Int) : moment_four.f n = some (fourP n) := by
  unfold moment_four.f
  rw [two_f, two_f, Option.bind_some, Option.bind_some, if_pos (by rw [twoP_size, twoP_size]; omega)]
  rfl
theorem fourP_size (n : Int) : (fourP n).size = 4 := by unfold fourP; rw [ByteArray.size_append, twoP_size, twoP_size]
def dashP (y m : Int) : ByteArray := (⟨#[45]⟩ : ByteArray) ++ monthL.getD (m - 1).toNat ⟨#[]⟩ ++ (⟨#[45]⟩ : ByteArray) ++ fourP y
def moment_dashed.f (a0_0 a0_1 _a0_2 _a0_3 _a0_4 _a0_5 _a0_6 : Int) : Option ByteArray := if 1 ≤ a0_1 ∧ a0_1 ≤ 12 then some (dashP a0_0 a0_1) else none
set_option maxHeartbeats 1000000 in
set_option maxRecDepth 100000 in
theorem moment_dashed.calls (a0_0 a0_1 a0_2 a0_3 a0_4 a0_5 a0_6 : Int) (r : ByteArray) (w : World) (h : moment_dashed.f a0_0 a0_1 a0_2 a0_3 a0_4 a0_5 a0_6 = some r) :
    Calls Tryd.prog 50 #[.agg #[.int .i64 a0_0, .int .i64 a0_1, .int .i64 a0_2, .int .i64 a0_3, .int .i64 a0_4, .int .i64 a0_5, .int .i64 a0_6]] w fun e w' => e = .returned (.string r) ∧ Below w.heap.size w w' := by
  unfold moment_dashed.f at h
  by_cases hm : 1 ≤ a0_1 ∧ a0_1 ≤ 12
  · rw [if_pos hm] at h
    obtain rfl := Option.some.inj h
    obtain ⟨n, rfl⟩ : ∃ n : Nat, a0_1 = n + 1 := ⟨(a0_1 - 1).toNat, by omega⟩
    have hn : n < 12 := by omega
    have hd : Hid (dashP a0_0 ((n : Int) + 1) = (⟨#[45]⟩ : ByteArray) ++ monthL.getD n ⟨#[]⟩ ++ (⟨#[45]⟩ : ByteArray) ++ fourP a0_0) := by
      show dashP a0_0 ((n : Int) + 1) = _; unfold dashP; congr 4; simp
    have hn0 : (0 : Int) ≤ (n : Int) := by omega
    have hn1 : (n : Int) < 12 := by omega
    have hwr : IntKind.i64.wrap (n : Int) = (n : Int) := IntWalk.i64_in _ (by omega)
    have hms := month_size n hn
    have hfs := fourP_size a0_0
    have hix := fun w => month_index w n hn
    have hF := Lib.hid (four_f a0_0)
    generalize monthL.getD n ⟨#[]⟩ = mn at *
    generalize fourP a0_0 = fy at *
    clear h
    go_enter Tryd.func50, Tryd.ntmps50
    go_wp2_with fail
    go_region_held3 (fun w' => w'.cell? ⟨w.heap.size, 0, none⟩ = some (.int .i64 a0_0) ∧ w'.cell? ⟨w.heap.size, 1, none⟩ = some (.int .i64 ((n : Int) + 1))) (go_keep)
      (first | (go_at_call 66; refine (months_calls _).mono ?_; rintro e w1 ⟨rfl, hb1⟩; have k0 := pw_cell_below hb1 (a := ⟨w.heap.size, 0, none⟩) (v := .int .i64 a0_0) (by first | assumption | go_simp); have k1 := pw_cell_below hb1 (a := ⟨w.heap.size, 1, none⟩) (v := .int .i64 ((n : Int) + 1)) (by first | assumption | go_simp)) | (go_at_call 67; refine (moment_four.calls _ _ _ hF.out).mono ?_; rintro e w2 ⟨rfl, hb2⟩; have k2 := pw_cell_below hb2 (a := ⟨w.heap.size, 0, none⟩) (v := .int .i64 a0_0) (by first | assumption | go_simp); have k3 := pw_cell_below hb2 (a := ⟨w.heap.size, 1, none⟩) (v := .int .i64 ((n : Int) + 1)) (by first | assumption | go_simp)))
    all_goals go_wp2
    all_goals go_ret
    all_goals exact ⟨by rw [hd.out]; rfl, by repeat (first | (with_reducible first | exact Below.refl _ _ | apply below_alloc | apply pw_below_drewN | apply below_drew | refine below_step ?_ hb2 | refine below_step ?_ hb1))⟩
  · rw [if_neg hm] at h
    exact absurd h (by simp)
end Go.Proofs.YtjlchnmpebdggaaDoor.Mo
end
section
namespace Go.Proofs.YtjlchnmpebdggaaDoor.Mo
open Go.RowKit Go.Proofs.YtjlchnmpebdggaaDoorW.PrintWords
def isDayB (y m d : Int) : Bool := decide (1 ≤ y ∧ y ≤ 9999 ∧ 1 ≤ m ∧ m ≤ 12 ∧ 1 ≤ d ∧ d ≤ lengthP y m)
def timeB (h mi s z : Int) : Bool := decide (0 ≤ h ∧ h ≤ 23 ∧ 0 ≤ mi ∧ mi ≤ 59 ∧ 0 ≤ s ∧ s ≤ 59 ∧ -1439 ≤ z ∧ z ≤ 1439)
def validB (y m d h mi s z : Int) : Bool := isDayB y m d && timeB h mi s z
theorem isDay_iff (y m d : Int) : isDayB y m d = true ↔ 1 ≤ y ∧ y ≤ 9999 ∧ 1 ≤ m ∧ m ≤ 12 ∧ 1 ≤ d ∧ d ≤ lengthP y m := by simp [isDayB]
theorem time_iff (h mi s z : Int) : timeB h mi s z = true ↔ 0 ≤ h ∧ h ≤ 23 ∧ 0 ≤ mi ∧ mi ≤ 59 ∧ 0 ≤ s ∧ s ≤ 59 ∧ -1439 ≤ z ∧ z ≤ 1439 := by simp [timeB]
theorem valid_iff (y m d h mi s z : Int) : validB y m d h mi s z = true ↔ isDayB y m d = true ∧ timeB h mi s z = true := by simp [validB]
theorem isDay_f (y m d h mi s z : Int) : moment_isDay.f y m d h mi s z = some (isDayB y m d) := by
  unfold moment_isDay.f
  by_cases h1 : y < 1
  · rw [if_pos h1, (show isDayB y m d = false from Bool.eq_false_iff.2 (fun h => by have := (isDay_iff y m d).1 h; omega))]
  · rw [if_neg h1]
    by_cases h2 : y > 9999
    · rw [if_pos h2, (show isDayB y m d = false from Bool.eq_false_iff.2 (fun h => by have := (isDay_iff y m d).1 h; omega))]
    · rw [if_neg h2]
      by_cases h3 : m < 1
      · rw [if_pos h3, (show isDayB y m d = false from Bool.eq_false_iff.2 (fun h => by have := (isDay_iff y m d).1 h; omega))]
      · rw [if_neg h3]
        by_cases h4 : m > 12
        · rw [if_pos h4, (show isDayB y m d = false from Bool.eq_false_iff.2 (fun h => by have := (isDay_iff y m d).1 h; omega))]
        · rw [if_neg h4]
          by_cases h5 : d ≥ 1
          · rw [if_pos h5]
            unfold moment_length.f
            rw [if_pos ⟨by omega, by omega⟩]
            simp only [Option.bind_some]
            unfold isDayB
            congr 1
            apply decide_eq_decide.2
            constructor
            · intro h; exact ⟨by omega, by omega, by omega, by omega, h5, h⟩
            · intro h; exact h.2.2.2.2.2
          · rw [if_neg h5, (show isDayB y m d = false from Bool.eq_false_iff.2 (fun h => by have := (isDay_iff y m d).1 h; omega))]
theorem valid_f (y m d h mi s z : Int) : moment_Valid.f y m d h mi s z = some (validB y m d h mi s z) := by
  unfold moment_Valid.f validB
  rw [isDay_f]
  simp only [Option.bind_some]
  cases isDayB y m d with
  | false => rw [if_neg (by simp)]; rfl
  | true =>
    rw [if_pos rfl, Bool.true_and]
    have hf : ∀ (p : Prop), (timeB h mi s z = true → ¬ p) → p → timeB h mi s z = false := fun p h1 h2 => Bool.eq_false_iff.2 (fun h => h1 h h2)
    have hi := time_iff h mi s z
    by_cases h1 : h < 0
    · rw [if_pos h1, hf (h < 0) (fun q => by have := hi.1 q; omega) h1]
    · rw [if_neg h1]
      by_cases h2 : h > 23
      · rw [if_pos h2, hf (h > 23) (fun q => by have := hi.1 q; omega) h2]
      · rw [if_neg h2]
        by_cases h3 : mi < 0
        · rw [if_pos h3, hf (mi < 0) (fun q => by have := hi.1 q; omega) h3]
        · rw [if_neg h3]
          by_cases h4 : mi > 59
          · rw [if_pos h4, hf (mi > 59) (fun q => by have := hi.1 q; omega) h4]
          · rw [if_neg h4]
            by_cases h5 : s < 0
            · rw [if_pos h5, hf (s < 0) (fun q => by have := hi.1 q; omega) h5]
            · rw [if_neg h5]
              by_cases h6 : s > 59
              · rw [if_pos h6, hf (s > 59) (fun q => by have := hi.1 q; omega) h6]
              · rw [if_neg h6]
                by_cases h7 : z ≥ (-1439)
                · rw [if_pos h7]
                  congr 1
                  unfold timeB
                  apply decide_eq_decide.2
                  constructor
                  · intro q; exact ⟨by omega, by omega, by omega, by omega, by omega, by omega, by omega, q⟩
                  · intro q; exact q.2.2.2.2.2.2.2
                · rw [if_neg h7, hf (¬ z ≥ (-1439)) (fun q => by have := hi.1 q; omega) h7]
def refuseP (y m d h mi s z : Int) : Int := if isDayB y m d = true then (if validB y m d h mi s z = true then 0 else 20) else 21
theorem refused_f (y m d h mi s z : Int) : moment_refused.f y m d h mi s z = some (refuseP y m d h mi s z) := by
  unfold moment_refused.f refuseP
  rw [isDay_f, valid_f]
  simp only [Option.bind_some]
  split
  · split <;> rfl
  · rfl
def plainP (d : Int) : ByteArray := if bt (twoP d) 0 = 48 then (twoP d).extract 1 2 else twoP d
theorem plain_f (d : Int) : moment_plain.f d = some (plainP d) := by
  unfold moment_plain.f plainP
  rw [two_f]
  simp only [Option.bind_some]
  rw [if_pos (by rw [twoP_size]; omega)]
  split
  · rw [if_pos (by rw [twoP_size]; omega), twoP_size]
  · rfl
theorem plainP_size (d : Int) : (plainP d).size = 1 ∨ (plainP d).size = 2 := by
  unfold plainP
  split
  · left; rw [ByteArray.size_extract, twoP_size]; rfl
  · right; exact twoP_size d
def padP (d : Int) : ByteArray := if (plainP d).size = 1 then ⟨#[32]⟩ ++ plainP d else plainP d
end Go.Proofs.YtjlchnmpebdggaaDoor.Mo
end
section
namespace Go.Proofs.YtjlchnmpebdggaaDoor.Mo
open Go.RowKit Go.Proofs.YtjlchnmpebdggaaDoorW.PrintWords Go.Proofs.YtjlchnmpebdggaaDoorW.PrintLast Go.Proofs.YtjlchnmpebdggaaDoorW.PrintMore
attribute [local go_sem] max2_int min2_int max_two min_two max_three min_three max_four min_four   -- for this text's walks alone
set_option linter.unusedVariables false
set_option linter.unusedSimpArgs false
end Go.Proofs.YtjlchnmpebdggaaDoor.Mo
end
section
namespace Go.Proofs.YtjlchnmpebdggaaDoor.Mo
open Go.RowKit Go.Proofs.YtjlchnmpebdggaaDoorW.PrintWords Go.Proofs.YtjlchnmpebdggaaDoorW.PrintLast Go.Proofs.YtjlchnmpebdggaaDoorW.PrintMore
attribute [local go_sem] max2_int min2_int max_two min_two max_three min_three max_four min_four   -- for this text's walks alone
set_option linter.unusedVariables false
set_option linter.unusedSimpArgs false
end Go.Proofs.YtjlchnmpebdggaaDoor.Mo
end
section
namespace Go.Proofs.YtjlchnmpebdggaaDoor.Mo
open Go.RowKit Go.Proofs.YtjlchnmpebdggaaDoorW.PrintWords Go.Proofs.YtjlchnmpebdggaaDoorW.PrintLast Go.Proofs.YtjlchnmpebdggaaDoorW.PrintMore
attribute [local go_sem] max2_int min2_int max_two min_two max_three min_three max_four min_four   -- for this text's walks alone
set_option linter.unusedVariables false
set_option linter.unusedSimpArgs false
end Go.Proofs.YtjlchnmpebdggaaDoor.Mo
end
section
namespace Go.Proofs.YtjlchnmpebdggaaDoor.Mo
open Go.RowKit Go.Proofs.YtjlchnmpebdggaaDoorW.PrintWords Go.Proofs.YtjlchnmpebdggaaDoorW.PrintLast Go.Proofs.YtjlchnmpebdggaaDoorW.PrintMore
attribute [local go_sem] max2_int min2_int max_two min_two max_three min_three max_four min_four   -- for this text's walks alone
set_option linter.unusedVariables false
set_option linter.unusedSimpArgs false
end Go.Proofs.YtjlchnmpebdggaaDoor.Mo
end
section
namespace Go.Proofs.YtjlchnmpebdggaaDoor.Mo
open Go.RowKit Go.Proofs.YtjlchnmpebdggaaDoorW.PrintWords
def isDig (c : UInt8) : Bool := decide (48 ≤ c.toNat) && decide (c.toNat ≤ 57)
def dstep (n : Int) (c : UInt8) : Int := 10 * n + ((c.toNat : Int) - 48)
def dval (l : List UInt8) : Int := l.foldl dstep 0
def digitsP (s : ByteArray) : Int × Bool := if 1 ≤ s.size ∧ s.size ≤ 4 ∧ s.data.toList.all isDig = true then (dval s.data.toList, true) else (0, false)
theorem isDig_iff (c : UInt8) : isDig c = true ↔ 48 ≤ c.toNat ∧ c.toNat ≤ 57 := by simp [isDig]
theorem toList_len (s : ByteArray) : s.data.toList.length = s.size := by rw [Array.length_toList]; rfl
theorem bt_get (s : ByteArray) (i : Nat) (h : i < s.data.toList.length) : bt s (i : Int) = ((s.data.toList[i]).toNat : Int) := by
  have h2 : i < s.size := by rw [← toList_len]; exact h
  unfold bt
  rw [Int.toNat_natCast, dif_pos h2]
  rfl
theorem dval_snoc (l : List UInt8) (c : UInt8) : dval (l ++ [c]) = dstep (dval l) c := by simp [dval, List.foldl_append]
theorem dfold_bound : ∀ (l : List UInt8) (n : Int) (j : Nat), l.all isDig = true → 0 ≤ n → n < 10 ^ j → 0 ≤ l.foldl dstep n ∧ l.foldl dstep n < 10 ^ (j + l.length)
  | [], n, j, _, h0, h1 => ⟨h0, h1⟩
  | c :: l, n, j, h, h0, h1 => by
    rw [List.all_cons, Bool.and_eq_true] at h
    obtain ⟨h3, h4⟩ := (isDig_iff c).1 h.1
    have hp : (10 : Int) ^ (j + 1) = 10 ^ j * 10 := Int.pow_succ ..
    have := dfold_bound l (dstep n c) (j + 1) h.2 (by unfold dstep; omega) (by unfold dstep; omega)
    rw [List.foldl_cons, List.length_cons, show j + (l.length + 1) = j + 1 + l.length from by omega]
    exact this
theorem dval_bound (l : List UInt8) (h : l.all isDig = true) : 0 ≤ dval l ∧ dval l < 10 ^ l.length := by
  have := dfold_bound l 0 0 h (by decide) (by decide)
  rwa [Nat.zero_add] at this
theorem digit_step (n : Int) (c : UInt8) (h0 : 0 ≤ n) (h1 : n < 1000000000000) (h2 : 48 ≤ c.toNat) (h3 : c.toNat ≤ 57) :
    wrap64 ((wrap64 (10 * n)) + (((c.toNat : Int) - 48) % 256)) = dstep n c := by
  rw [IntWalk.wrap64_in (10 * n) ⟨by omega, by omega⟩, Int.emod_eq_of_lt (by omega) (by omega), IntWalk.wrap64_in _ ⟨by omega, by omega⟩]
  rfl
theorem next_step (i : Nat) (h : i < 1000000000000000) : wrap64 ((i : Int) + 1) = ((i + 1 : Nat) : Int) := by
  rw [IntWalk.wrap64_in _ ⟨by omega, by omega⟩]; omega
theorem digits_l0 (s : ByteArray) (hs : s.size ≤ 4) (d : Nat) : ∀ (k i : Nat), i ≤ s.size → s.size - i = d → d < k → (s.data.toList.take i).all isDig = true →
    moment_digits.l0 k s (dval (s.data.toList.take i)) (s.size : Int) (i : Int) = if (s.data.toList.drop i).all isDig = true then some (dval s.data.toList, true) else some (0, false) := by
  induction d with
  | zero =>
    intro k i hi hd hk ha
    obtain ⟨k, rfl⟩ : ∃ m, k = m + 1 := ⟨k - 1, by omega⟩
    have e : i = s.size := by omega
    subst e
    have hl := toList_len s
    simp only [moment_digits.l0]
    rw [if_neg (by omega), if_pos (by rw [List.drop_of_length_le (by omega)]; rfl), List.take_of_length_le (by omega)]
  | succ d ih =>
    intro k i hi hd hk ha
    obtain ⟨k, rfl⟩ : ∃ m, k = m + 1 := ⟨k - 1, by omega⟩
    have hl := toList_len s
    have hlt : i < s.data.toList.length := by omega
    have hb := bt_get s i hlt
    have h8 := (s.data.toList[i]).toNat_lt
    have hdr : s.data.toList.drop i = s.data.toList[i] :: s.data.toList.drop (i + 1) := List.drop_eq_getElem_cons hlt
    have htk : s.data.toList.take (i + 1) = s.data.toList.take i ++ [s.data.toList[i]] := by rw [List.take_succ_eq_append_getElem hlt]
    obtain ⟨b1, b2⟩ := dval_bound _ ha
    rw [List.length_take, Nat.min_eq_left (by omega)] at b2
    have b3 : dval (s.data.toList.take i) < 10000 := by
      have : (10 : Int) ^ i ≤ 10 ^ 4 := by
        have h4 : i = 0 ∨ i = 1 ∨ i = 2 ∨ i = 3 := by omega
        rcases h4 with rfl | rfl | rfl | rfl <;> decide
      omega
    simp only [moment_digits.l0]
    rw [if_pos (by omega), if_pos (by omega), if_pos (by omega), hb, hdr]
    generalize hc : s.data.toList[i] = c at *
    by_cases c1 : c.toNat < 48
    · rw [if_pos (by omega), if_neg (by simp [isDig]; omega)]
    · rw [if_neg (by omega)]
      by_cases c2 : c.toNat > 57
      · rw [if_pos (by omega), if_neg (by simp [isDig]; omega)]
      · rw [if_neg (by omega)]
        have hdig : isDig c = true := (isDig_iff c).2 ⟨by omega, by omega⟩
        have e1 : wrap64 ((wrap64 (10 * dval (s.data.toList.take i))) + (((c.toNat : Int) - 48) % 256)) = dval (s.data.toList.take (i + 1)) := by
          rw [htk, dval_snoc, digit_step _ _ b1 (by omega) (by omega) (by omega)]
        rw [e1, next_step i (by omega), ih k (i + 1) (by omega) (by omega) (by omega) (by rw [htk, List.all_append, ha]; simp [hdig])]
        simp only [List.all_cons, hdig, Bool.true_and]
theorem digits_f (k : Nat) (hk : 7 ≤ k) (s : ByteArray) : moment_digits.f k s = some (digitsP s) := by
  have hl := toList_len s
  unfold moment_digits.f
  obtain ⟨k, rfl⟩ : ∃ m, k = m + 1 := ⟨k - 1, by omega⟩
  by_cases h0 : s.toList = []
  · have hz : s.size = 0 := by rw [ByteArray.toList_eq] at h0; rw [← hl, h0]; rfl
    rw [if_pos h0]
    simp only [moment_digits.j0]
    unfold digitsP
    rw [if_pos trivial, if_neg (by omega)]
  · have hz : s.size ≠ 0 := by
      intro h; apply h0; rw [ByteArray.toList_eq]; exact List.eq_nil_of_length_eq_zero (by omega)
    rw [if_neg h0]
    simp only [moment_digits.j0]
    by_cases h4 : s.size > 4
    · rw [if_pos (by exact decide_eq_true (by omega))]
      unfold digitsP
      rw [if_neg (by omega)]
    · rw [if_neg (by intro h; have := of_decide_eq_true h; omega)]
      have := digits_l0 s (by omega) s.size k 0 (by omega) (by omega) (by omega) rfl
      simp only [List.take_zero, List.drop_zero] at this
      rw [show ((0 : Nat) : Int) = 0 from rfl] at this
      have e0 : dval [] = 0 := rfl
      rw [e0] at this
      rw [this]
      unfold digitsP
      by_cases ha : s.data.toList.all isDig = true
      · rw [if_pos ha, if_pos ⟨by omega, by omega, ha⟩]
      · rw [if_neg ha, if_neg (fun h => ha h.2.2)]
end Go.Proofs.YtjlchnmpebdggaaDoor.Mo
end
