import Derived.Test.YtjlchnmpebdggaaDoorHdr2
import Derived.Test.YtjlchnmpebdggaaDoorHdr4
import Derived.IntWalk
import Derived.Test.YtjlchnmpebdggaaDoorHdr3
import Derived.Test.YtjlchnmpebdggaaDoorHdr0
section
namespace Go.Proofs.YtjlchnmpebdggaaDoor.Mo
open Go.RowKit Go.Proofs.YtjlchnmpebdggaaDoorW.PrintWords Go.Proofs.YtjlchnmpebdggaaDoorW.PrintLast Go.Proofs.YtjlchnmpebdggaaDoorW.PrintMore
attribute [local go_sem] max2_int min2_int max_two min_two max_three min_three max_four min_four   -- for this text's walks alone
set_option linter.unusedVariables false
set_option linter.unusedSimpArgs false
def postbagref2_year.f (a0 : Int) : Option (Int) := (postbagref2_leap.f a0).bind fun t177 => (if t177 = true then (some 366) else (some 365))
set_option maxHeartbeats 8000000 in
set_option maxRecDepth 100000 in
theorem postbagref2_year.calls (a0 : Int) (r : Int) (w : World) (h : postbagref2_year.f a0 = some r) :
  Calls Tryd.prog 82 #[.int .i64 a0] w fun e w' => e = .returned (.int .i64 r) ∧ Drawn0 w w' := by
 have H : ((postbagref2_leap.f a0).bind fun t177 => (if t177 = true then (some 366) else (some 365))) = some r := h
 clear h
 replace H := Option.bind_eq_some_iff.mp H
 obtain ⟨t177, A20, H⟩ := H
 replace H : (if t177 = true then (some 366) else (some 365)) = some r := H
 have A2 := Aside0.mk A20
 clear A20
 refine (Classical.em (t177 = true)).elim (fun c3 => ?p3) (fun c3 => ?n3)
 case' p3 =>
  subst c3
  have H1 : (some 366) = some r := by rw [if_pos rfl] at H; exact H
  clear H
  have H := H1
  clear H1
  obtain rfl := Option.some.inj H
 case' n3 =>
  replace c3 := Bool.eq_false_iff.mpr c3
  subst c3
  have H1 : (some 365) = some r := by rw [if_neg (show ¬ (false = true) by decide)] at H; exact H
  clear H
  have H := H1
  clear H1
  obtain rfl := Option.some.inj H
 all_goals
  go_enter Tryd.func82, Tryd.ntmps82
  go_wp2_with (first | ((with_reducible refine gate_callee (f := 97) rfl ?_); refine goesL_ (some 4) rfl rfl Tryd.func97 (by kernel_rfl) rfl #[.int .i64 a0] rfl (by (try simp only [List.map_toArray, List.map_cons, List.map_nil]); first | done | rfl) ?_; (with_reducible refine (postbagref2_leap.calls a0 _ _ A2.out).mono ?_); rintro e w' ⟨rfl, ⟨nd, rfl⟩⟩; refine ⟨_, rfl, ?_⟩))
  go_ret
  exact ⟨by first | rfl | (simp; done) | (simp [*]; done), by repeat (first | exact Drawn0.refl _ | apply Drawn0.step)⟩
mutual
def postbagref2_Days.l0 : Nat → Int → Int → Int → Int → Int → Int → Int → Int → Int → Option (Int)
 | 0, _, _, _, _, _, _, _, _, _ => none
 | k + 1, x3, x4, x179000, x179001, x179002, x179003, x179004, x179005, x179006 => if x4 < x179000 then ((postbagref2_year.f x4).bind fun t180 => (postbagref2_Days.l0 k (wrap64 (x3 + t180)) (wrap64 (x4 + 1)) x179000 x179001 x179002 x179003 x179004 x179005 x179006)) else (postbagref2_Days.l1 k x3 x179000 x179000 x179001 x179002 x179003 x179004 x179005 x179006)
def postbagref2_Days.l1 : Nat → Int → Int → Int → Int → Int → Int → Int → Int → Int → Option (Int)
 | 0, _, _, _, _, _, _, _, _, _ => none
 | k + 1, x3, x5, x179000, x179001, x179002, x179003, x179004, x179005, x179006 => if x5 < 1970 then ((postbagref2_year.f x5).bind fun t181 => (postbagref2_Days.l1 k (wrap64 (x3 - t181)) (wrap64 (x5 + 1)) x179000 x179001 x179002 x179003 x179004 x179005 x179006)) else (postbagref2_Days.l2 k x3 1 x179000 x179001 x179002 x179003 x179004 x179005 x179006)
def postbagref2_Days.l2 : Nat → Int → Int → Int → Int → Int → Int → Int → Int → Int → Option (Int)
 | 0, _, _, _, _, _, _, _, _, _ => none
 | k + 1, x3, x6, x179000, x179001, x179002, x179003, x179004, x179005, x179006 => if x6 < x179001 then ((postbagref2_length.f k x179000 x6).bind fun t182 => (postbagref2_Days.l2 k (wrap64 (x3 + t182)) (wrap64 (x6 + 1)) x179000 x179001 x179002 x179003 x179004 x179005 x179006)) else (some x3)
end
def postbagref2_Days.f (k : Nat) (a0_0 : Int) (a0_1 : Int) (a0_2 : Int) (a0_3 : Int) (a0_4 : Int) (a0_5 : Int) (a0_6 : Int) : Option (Int) := (postbagref2_Valid.f k a0_0 a0_1 a0_2 a0_3 a0_4 a0_5 a0_6).bind fun t179 => (if t179 = true then (postbagref2_Days.l0 k (wrap64 (a0_2 - 1)) 1970 a0_0 a0_1 a0_2 a0_3 a0_4 a0_5 a0_6) else (some 0))
set_option maxHeartbeats 8000000 in
set_option maxRecDepth 100000 in
theorem postbagref2_Days.calls (k : Nat) (a0_0 : Int) (a0_1 : Int) (a0_2 : Int) (a0_3 : Int) (a0_4 : Int) (a0_5 : Int) (a0_6 : Int) (r : Int) (w : World) (h : postbagref2_Days.f k a0_0 a0_1 a0_2 a0_3 a0_4 a0_5 a0_6 = some r) :
  Calls Tryd.prog 41 #[.agg #[.int .i64 a0_0, .int .i64 a0_1, .int .i64 a0_2, .int .i64 a0_3, .int .i64 a0_4, .int .i64 a0_5, .int .i64 a0_6]] w fun e w' => e = .returned (.int .i64 r) ∧ Below w.heap.size w w' := by
 have hu23 := Tryd.underlying23
 have HB := Aside0.mk (Below.refl w.heap.size w)
 have H : ((postbagref2_Valid.f k a0_0 a0_1 a0_2 a0_3 a0_4 a0_5 a0_6).bind fun t179 => (if t179 = true then (postbagref2_Days.l0 k (wrap64 (a0_2 - 1)) 1970 a0_0 a0_1 a0_2 a0_3 a0_4 a0_5 a0_6) else (some 0))) = some r := h
 clear h
 replace H := Option.bind_eq_some_iff.mp H
 obtain ⟨t179, A20, H⟩ := H
 replace H : (if t179 = true then (postbagref2_Days.l0 k (wrap64 (a0_2 - 1)) 1970 a0_0 a0_1 a0_2 a0_3 a0_4 a0_5 a0_6) else (some 0)) = some r := H
 have A2 := Aside0.mk A20
 clear A20
 by_cases c3 : t179 = true
 ·subst c3
  have H1 : (postbagref2_Days.l0 k (wrap64 (a0_2 - 1)) 1970 a0_0 a0_1 a0_2 a0_3 a0_4 a0_5 a0_6) = some r := by rw [if_pos rfl] at H; exact H
  clear H
  have H := H1
  clear H1
  have H' := Aside0.mk H
  clear H
  go_enter Tryd.func41, Tryd.ntmps41
  go_wp2_with (first | ((with_reducible refine gate_dst (N := 1) rfl ?_); refine box_event ?hg (N := 1) ?hd (cs := #[.int .i64 a0_0, .int .i64 a0_1, .int .i64 a0_2, .int .i64 a0_3, .int .i64 a0_4, .int .i64 a0_5, .int .i64 a0_6]) (t := 23) ?hr ?_; (case hd => rfl); (case hg => rfl); (case hr => first | (go_simp; done) | (go_simp; rfl)); intro gb178 hg w4 hbox hb; have n0_ := Aside0.mk (below_step (by repeat (first | (with_reducible first | exact HB.out | apply below_alloc | apply pw_below_drewN | apply below_drew1) | exact HB.out)) hb); have n1_ := Aside0.mk (hbox); have n2_ := Aside0.mk ((by rw [hg]; exact (below_size (by repeat (first | (with_reducible first | exact HB.out | apply below_alloc | apply pw_below_drewN | apply below_drew1) | exact HB.out))) : w.heap.size ≤ gb178)); have n3_ := Aside0.mk ((by rw [hg]; exact (below_size (by repeat (first | (with_reducible first | exact HB.out | apply below_alloc | apply pw_below_drewN | apply below_drew1) | exact HB.out))) : w.heap.size ≤ gb178)); clear HB; have HB := n0_; have BK178 := n1_; have GW178 := n2_; have GE178 := n3_; clear n0_ n1_ n2_ n3_; clear hb hbox hg; have hcz5_0 : w4.cell? ⟨gb178, 0, none⟩ = some (.int .i64 a0_0) := (blk_cell BK178.out 0).trans rfl; have hcz5_1 : w4.cell? ⟨gb178, 1, none⟩ = some (.int .i64 a0_1) := (blk_cell BK178.out 1).trans rfl; have hcz5_2 : w4.cell? ⟨gb178, 2, none⟩ = some (.int .i64 a0_2) := (blk_cell BK178.out 2).trans rfl; have hcz5_3 : w4.cell? ⟨gb178, 3, none⟩ = some (.int .i64 a0_3) := (blk_cell BK178.out 3).trans rfl; have hcz5_4 : w4.cell? ⟨gb178, 4, none⟩ = some (.int .i64 a0_4) := (blk_cell BK178.out 4).trans rfl; have hcz5_5 : w4.cell? ⟨gb178, 5, none⟩ = some (.int .i64 a0_5) := (blk_cell BK178.out 5).trans rfl; have hcz5_6 : w4.cell? ⟨gb178, 6, none⟩ = some (.int .i64 a0_6) := (blk_cell BK178.out 6).trans rfl; have hfz5_0 := blk_frozen BK178.out 0; have hfz5_1 := blk_frozen BK178.out 1; have hfz5_2 := blk_frozen BK178.out 2; have hfz5_3 := blk_frozen BK178.out 3; have hfz5_4 := blk_frozen BK178.out 4; have hfz5_5 := blk_frozen BK178.out 5; have hfz5_6 := blk_frozen BK178.out 6) | ((with_reducible refine gate_callee (f := 40) rfl ?_); refine goesL_ (some 8) rfl rfl Tryd.func40 (by kernel_rfl) rfl #[.agg #[.int .i64 a0_0, .int .i64 a0_1, .int .i64 a0_2, .int .i64 a0_3, .int .i64 a0_4, .int .i64 a0_5, .int .i64 a0_6]] rfl (by (try simp only [List.map_toArray, List.map_cons, List.map_nil]); first | done | rfl) ?_; (with_reducible refine (postbagref2_Valid.calls k a0_0 a0_1 a0_2 a0_3 a0_4 a0_5 a0_6 true _ A2.out).mono ?_); rintro e w6 ⟨rfl, hb⟩; refine ⟨_, rfl, ?_⟩; have n0_ := Aside0.mk (blk_below (g := gb178) (o := .cells #[.int .i64 a0_0, .int .i64 a0_1, .int .i64 a0_2, .int .i64 a0_3, .int .i64 a0_4, .int .i64 a0_5, .int .i64 a0_6] 23 (0, 0)) (by (with_reducible repeat first | refine blk_drewN ?_ _ | refine blk_alloc ?_ _); exact BK178.out) hb); have n1_ := Aside0.mk (below_step (by repeat (first | (with_reducible first | exact HB.out | apply below_alloc | apply pw_below_drewN | apply below_drew1 | refine below_set ?_ GE178.out) | exact HB.out)) hb); clear BK178; clear HB; have BK178 := n0_; have HB := n1_; clear n0_ n1_; (try clear hb); (try clear hb2); (try clear hk); (try clear hi); have hcz7_0 : w6.cell? ⟨gb178, 0, none⟩ = some (.int .i64 a0_0) := (blk_cell BK178.out 0).trans rfl; have hcz7_1 : w6.cell? ⟨gb178, 1, none⟩ = some (.int .i64 a0_1) := (blk_cell BK178.out 1).trans rfl; have hcz7_2 : w6.cell? ⟨gb178, 2, none⟩ = some (.int .i64 a0_2) := (blk_cell BK178.out 2).trans rfl; have hcz7_3 : w6.cell? ⟨gb178, 3, none⟩ = some (.int .i64 a0_3) := (blk_cell BK178.out 3).trans rfl; have hcz7_4 : w6.cell? ⟨gb178, 4, none⟩ = some (.int .i64 a0_4) := (blk_cell BK178.out 4).trans rfl; have hcz7_5 : w6.cell? ⟨gb178, 5, none⟩ = some (.int .i64 a0_5) := (blk_cell BK178.out 5).trans rfl; have hcz7_6 : w6.cell? ⟨gb178, 6, none⟩ = some (.int .i64 a0_6) := (blk_cell BK178.out 6).trans rfl; have hfz7_0 := blk_frozen BK178.out 0; have hfz7_1 := blk_frozen BK178.out 1; have hfz7_2 := blk_frozen BK178.out 2; have hfz7_3 := blk_frozen BK178.out 3; have hfz7_4 := blk_frozen BK178.out 4; have hfz7_5 := blk_frozen BK178.out 5; have hfz7_6 := blk_frozen BK178.out 6))
  go_loopg [3, 4] k (fun kq v3 v4 w' => ∃ (x3_1 : Int) (x4_1 : Int), v3 = .int .i64 x3_1 ∧ v4 = .int .i64 x4_1 ∧ Aside0 (postbagref2_Days.l0 kq x3_1 x4_1 a0_0 a0_1 a0_2 a0_3 a0_4 a0_5 a0_6 = some r) ∧ Aside0 (kq ≤ k) ∧ Aside0 (w'.heap[gb178]? = some (.cells #[.int .i64 a0_0, .int .i64 a0_1, .int .i64 a0_2, .int .i64 a0_3, .int .i64 a0_4, .int .i64 a0_5, .int .i64 a0_6] 23 (0, 0))) ∧ Aside0 (Below w.heap.size w w'))
  case atStart => exact ⟨(wrap64 (a0_2 - 1)), (1970), (by first | rfl | (simp; done) | (simp [*]; done)), (by first | rfl | (simp; done) | (simp [*]; done)), H', ⟨Nat.le_refl _⟩, ⟨by (with_reducible repeat first | refine blk_drewN ?_ _ | refine blk_alloc ?_ _); exact BK178.out⟩, ⟨by repeat (first | (with_reducible first | exact HB.out | apply below_alloc | apply pw_below_drewN | apply below_drew1 | refine below_set ?_ GE178.out) | exact HB.out)⟩⟩
  case round =>
   clear H'
   try clear p2
   try clear c3
   try clear c4
   try clear p6
   try clear hcz5_0
   try clear hcz5_1
   try clear hcz5_2
   try clear hcz5_3
   try clear hcz5_4
   try clear hcz5_5
   try clear hcz5_6
   try clear hcz7_0
   try clear hcz7_1
   try clear hcz7_2
   try clear hcz7_3
   try clear hcz7_4
   try clear hcz7_5
   try clear hcz7_6
   try clear hfz5_0
   try clear hfz5_1
   try clear hfz5_2
   try clear hfz5_3
   try clear hfz5_4
   try clear hfz5_5
   try clear hfz5_6
   try clear hfz7_0
   try clear hfz7_1
   try clear hfz7_2
   try clear hfz7_3
   try clear hfz7_4
   try clear hfz7_5
   try clear hfz7_6
   obtain ⟨x3_1, x4_1, rfl, rfl, HA, HK1, BK178, HB⟩ := hrel
   cases gk with
   | zero => exact absurd HA.out (by simp [postbagref2_Days.l0])
   | succ k1 =>
    have H := HA.out
    clear HA
    simp only [postbagref2_Days.l0] at H
    by_cases c8 : x4_1 < a0_0
    ·rw [if_pos c8] at H
     have c8b0 : decide (x4_1 < a0_0) = true := decide_eq_true c8
     clear c8
     replace H := Option.bind_eq_some_iff.mp H
     obtain ⟨t180, A90, H⟩ := H
     replace H : (postbagref2_Days.l0 k1 (wrap64 (x3_1 + t180)) (wrap64 (x4_1 + 1)) a0_0 a0_1 a0_2 a0_3 a0_4 a0_5 a0_6) = some r := H
     have A9 := Aside0.mk A90
     clear A90
     have H' := Aside0.mk H
     clear H
     have hcz10_0 : wr.cell? ⟨gb178, 0, none⟩ = some (.int .i64 a0_0) := (blk_cell BK178.out 0).trans rfl
     have hcz10_1 : wr.cell? ⟨gb178, 1, none⟩ = some (.int .i64 a0_1) := (blk_cell BK178.out 1).trans rfl
     have hcz10_2 : wr.cell? ⟨gb178, 2, none⟩ = some (.int .i64 a0_2) := (blk_cell BK178.out 2).trans rfl
     have hcz10_3 : wr.cell? ⟨gb178, 3, none⟩ = some (.int .i64 a0_3) := (blk_cell BK178.out 3).trans rfl
     have hcz10_4 : wr.cell? ⟨gb178, 4, none⟩ = some (.int .i64 a0_4) := (blk_cell BK178.out 4).trans rfl
     have hcz10_5 : wr.cell? ⟨gb178, 5, none⟩ = some (.int .i64 a0_5) := (blk_cell BK178.out 5).trans rfl
     have hcz10_6 : wr.cell? ⟨gb178, 6, none⟩ = some (.int .i64 a0_6) := (blk_cell BK178.out 6).trans rfl
     have hfz10_0 := blk_frozen BK178.out 0
     have hfz10_1 := blk_frozen BK178.out 1
     have hfz10_2 := blk_frozen BK178.out 2
     have hfz10_3 := blk_frozen BK178.out 3
     have hfz10_4 := blk_frozen BK178.out 4
     have hfz10_5 := blk_frozen BK178.out 5
     have hfz10_6 := blk_frozen BK178.out 6
     go_wp2_with (first | ((with_reducible refine gate_callee (f := 82) rfl ?_); refine goesL_ (some 21) rfl rfl Tryd.func82 (by kernel_rfl) rfl #[.int .i64 x4_1] rfl (by (try simp only [List.map_toArray, List.map_cons, List.map_nil]); first | done | rfl) ?_; (with_reducible refine (postbagref2_year.calls x4_1 t180 _ A9.out).mono ?_); rintro e w' ⟨rfl, ⟨nd, rfl⟩⟩; refine ⟨_, rfl, ?_⟩))
     go_roundg k1
     case measure => have := HK1.out; omega
     case rel => exact ⟨(wrap64 (x3_1 + t180)), (wrap64 (x4_1 + 1)), (by first | rfl | (simp; done) | (simp [*]; done)), (by first | rfl | (simp; done) | (simp [*]; done)), H', ⟨by have := HK1.out; omega⟩, ⟨by (with_reducible repeat first | refine blk_drewN ?_ _ | refine blk_alloc ?_ _); exact BK178.out⟩, ⟨by repeat (first | (with_reducible first | exact HB.out | apply below_alloc | apply pw_below_drewN | apply below_drew1 | refine below_set ?_ GE178.out) | exact HB.out)⟩⟩
    ·rw [if_neg c8] at H
     have c8b0 : decide (x4_1 < a0_0) = false := decide_eq_false c8
     clear c8
     have H' := Aside0.mk H
     clear H
     have hcz11_0 : wr.cell? ⟨gb178, 0, none⟩ = some (.int .i64 a0_0) := (blk_cell BK178.out 0).trans rfl
     have hcz11_1 : wr.cell? ⟨gb178, 1, none⟩ = some (.int .i64 a0_1) := (blk_cell BK178.out 1).trans rfl
     have hcz11_2 : wr.cell? ⟨gb178, 2, none⟩ = some (.int .i64 a0_2) := (blk_cell BK178.out 2).trans rfl
     have hcz11_3 : wr.cell? ⟨gb178, 3, none⟩ = some (.int .i64 a0_3) := (blk_cell BK178.out 3).trans rfl
     have hcz11_4 : wr.cell? ⟨gb178, 4, none⟩ = some (.int .i64 a0_4) := (blk_cell BK178.out 4).trans rfl
     have hcz11_5 : wr.cell? ⟨gb178, 5, none⟩ = some (.int .i64 a0_5) := (blk_cell BK178.out 5).trans rfl
     have hcz11_6 : wr.cell? ⟨gb178, 6, none⟩ = some (.int .i64 a0_6) := (blk_cell BK178.out 6).trans rfl
     have hfz11_0 := blk_frozen BK178.out 0
     have hfz11_1 := blk_frozen BK178.out 1
     have hfz11_2 := blk_frozen BK178.out 2
     have hfz11_3 := blk_frozen BK178.out 3
     have hfz11_4 := blk_frozen BK178.out 4
     have hfz11_5 := blk_frozen BK178.out 5
     have hfz11_6 := blk_frozen BK178.out 6
     go_wp2
     go_loopg [3, 5] k1 (fun kq v3 v5 w' => ∃ (x3_2 : Int) (x5_2 : Int), v3 = .int .i64 x3_2 ∧ v5 = .int .i64 x5_2 ∧ Aside0 (postbagref2_Days.l1 kq x3_2 x5_2 a0_0 a0_1 a0_2 a0_3 a0_4 a0_5 a0_6 = some r) ∧ Aside0 (kq ≤ k1) ∧ Aside0 (w'.heap[gb178]? = some (.cells #[.int .i64 a0_0, .int .i64 a0_1, .int .i64 a0_2, .int .i64 a0_3, .int .i64 a0_4, .int .i64 a0_5, .int .i64 a0_6] 23 (0, 0))) ∧ Aside0 (Below w.heap.size w w'))
     case atStart => exact ⟨(x3_1), (a0_0), (by first | rfl | (simp; done) | (simp [*]; done)), (by first | rfl | (simp; done) | (simp [*]; done)), H', ⟨Nat.le_refl _⟩, ⟨by (with_reducible repeat first | refine blk_drewN ?_ _ | refine blk_alloc ?_ _); exact BK178.out⟩, ⟨by repeat (first | (with_reducible first | exact HB.out | apply below_alloc | apply pw_below_drewN | apply below_drew1 | refine below_set ?_ GE178.out) | exact HB.out)⟩⟩
     case round =>
      clear H'
      try clear p2
      try clear c3
      try clear c4
      try clear p6
      try clear c8
      try clear c8b0
      try clear hcz10_0
      try clear hcz10_1
      try clear hcz10_2
      try clear hcz10_3
      try clear hcz10_4
      try clear hcz10_5
      try clear hcz10_6
      try clear hcz11_0
      try clear hcz11_1
      try clear hcz11_2
      try clear hcz11_3
      try clear hcz11_4
      try clear hcz11_5
      try clear hcz11_6
      try clear hcz5_0
      try clear hcz5_1
      try clear hcz5_2
      try clear hcz5_3
      try clear hcz5_4
      try clear hcz5_5
      try clear hcz5_6
      try clear hcz7_0
      try clear hcz7_1
      try clear hcz7_2
      try clear hcz7_3
      try clear hcz7_4
      try clear hcz7_5
      try clear hcz7_6
      try clear hfz10_0
      try clear hfz10_1
      try clear hfz10_2
      try clear hfz10_3
      try clear hfz10_4
      try clear hfz10_5
      try clear hfz10_6
      try clear hfz11_0
      try clear hfz11_1
      try clear hfz11_2
      try clear hfz11_3
      try clear hfz11_4
      try clear hfz11_5
      try clear hfz11_6
      try clear hfz5_0
      try clear hfz5_1
      try clear hfz5_2
      try clear hfz5_3
      try clear hfz5_4
      try clear hfz5_5
      try clear hfz5_6
      try clear hfz7_0
      try clear hfz7_1
      try clear hfz7_2
      try clear hfz7_3
      try clear hfz7_4
      try clear hfz7_5
      try clear hfz7_6
      try clear p2
      try clear p6
      obtain ⟨x3_2, x5_2, rfl, rfl, HA, HK2, BK178, HB⟩ := hrel
      cases gk with
      | zero => exact absurd HA.out (by simp [postbagref2_Days.l1])
      | succ k2 =>
       have H := HA.out
       clear HA
       simp only [postbagref2_Days.l1] at H
       by_cases c12 : x5_2 < 1970
       ·rw [if_pos c12] at H
        have c12b0 : decide (x5_2 < 1970) = true := decide_eq_true c12
        clear c12
        replace H := Option.bind_eq_some_iff.mp H
        obtain ⟨t181, A130, H⟩ := H
        replace H : (postbagref2_Days.l1 k2 (wrap64 (x3_2 - t181)) (wrap64 (x5_2 + 1)) a0_0 a0_1 a0_2 a0_3 a0_4 a0_5 a0_6) = some r := H
        have A13 := Aside0.mk A130
        clear A130
        have H' := Aside0.mk H
        clear H
        go_wp2_with (first | ((with_reducible refine gate_callee (f := 82) rfl ?_); refine goesL_ (some 31) rfl rfl Tryd.func82 (by kernel_rfl) rfl #[.int .i64 x5_2] rfl (by (try simp only [List.map_toArray, List.map_cons, List.map_nil]); first | done | rfl) ?_; (with_reducible refine (postbagref2_year.calls x5_2 t181 _ A13.out).mono ?_); rintro e w' ⟨rfl, ⟨nd, rfl⟩⟩; refine ⟨_, rfl, ?_⟩))
        go_roundg k2
        case measure => have := HK1.out; have := HK2.out; omega
        case rel => exact ⟨(wrap64 (x3_2 - t181)), (wrap64 (x5_2 + 1)), (by first | rfl | (simp; done) | (simp [*]; done)), (by first | rfl | (simp; done) | (simp [*]; done)), H', ⟨by have := HK1.out; have := HK2.out; omega⟩, ⟨by (with_reducible repeat first | refine blk_drewN ?_ _ | refine blk_alloc ?_ _); exact BK178.out⟩, ⟨by repeat (first | (with_reducible first | exact HB.out | apply below_alloc | apply pw_below_drewN | apply below_drew1 | refine below_set ?_ GE178.out) | exact HB.out)⟩⟩
       ·rw [if_neg c12] at H
        have c12b0 : decide (x5_2 < 1970) = false := decide_eq_false c12
        clear c12
        have H' := Aside0.mk H
        clear H
        go_wp2
        go_loopg [3, 6] k2 (fun kq v3 v6 w' => ∃ (x3_3 : Int) (x6_3 : Int), v3 = .int .i64 x3_3 ∧ v6 = .int .i64 x6_3 ∧ Aside0 (postbagref2_Days.l2 kq x3_3 x6_3 a0_0 a0_1 a0_2 a0_3 a0_4 a0_5 a0_6 = some r) ∧ Aside0 (kq ≤ k2) ∧ Aside0 (w'.heap[gb178]? = some (.cells #[.int .i64 a0_0, .int .i64 a0_1, .int .i64 a0_2, .int .i64 a0_3, .int .i64 a0_4, .int .i64 a0_5, .int .i64 a0_6] 23 (0, 0))) ∧ Aside0 (Below w.heap.size w w'))
        case atStart => exact ⟨(x3_2), (1), (by first | rfl | (simp; done) | (simp [*]; done)), (by first | rfl | (simp; done) | (simp [*]; done)), H', ⟨Nat.le_refl _⟩, ⟨by (with_reducible repeat first | refine blk_drewN ?_ _ | refine blk_alloc ?_ _); exact BK178.out⟩, ⟨by repeat (first | (with_reducible first | exact HB.out | apply below_alloc | apply pw_below_drewN | apply below_drew1 | refine below_set ?_ GE178.out) | exact HB.out)⟩⟩
        case round =>
         clear H'
         try clear c1
         try clear p2
         try clear c3
         try clear c4
         try clear p6
         try clear c8
         try clear c8b0
         try clear c12
         try clear c12b0
         try clear hcz10_0
         try clear hcz10_1
         try clear hcz10_2
         try clear hcz10_3
         try clear hcz10_4
         try clear hcz10_5
         try clear hcz10_6
         try clear hcz11_0
         try clear hcz11_1
         try clear hcz11_2
         try clear hcz11_3
         try clear hcz11_4
         try clear hcz11_5
         try clear hcz11_6
         try clear hcz5_0
         try clear hcz5_1
         try clear hcz5_2
         try clear hcz5_3
         try clear hcz5_4
         try clear hcz5_5
         try clear hcz5_6
         try clear hcz7_0
         try clear hcz7_1
         try clear hcz7_2
         try clear hcz7_3
         try clear hcz7_4
         try clear hcz7_5
         try clear hcz7_6
         try clear hfz10_0
         try clear hfz10_1
         try clear hfz10_2
         try clear hfz10_3
         try clear hfz10_4
         try clear hfz10_5
         try clear hfz10_6
         try clear hfz11_0
         try clear hfz11_1
         try clear hfz11_2
         try clear hfz11_3
         try clear hfz11_4
         try clear hfz11_5
         try clear hfz11_6
         try clear hfz5_0
         try clear hfz5_1
         try clear hfz5_2
         try clear hfz5_3
         try clear hfz5_4
         try clear hfz5_5
         try clear hfz5_6
         try clear hfz7_0
         try clear hfz7_1
         try clear hfz7_2
         try clear hfz7_3
         try clear hfz7_4
         try clear hfz7_5
         try clear hfz7_6
         try clear p2
         try clear p6
         obtain ⟨x3_3, x6_3, rfl, rfl, HA, HK3, BK178, HB⟩ := hrel
         cases gk with
         | zero => exact absurd HA.out (by simp [postbagref2_Days.l2])
         | succ k3 =>
          have H := HA.out
          clear HA
          simp only [postbagref2_Days.l2] at H
          by_cases c14 : x6_3 < a0_1
          ·rw [if_pos c14] at H
           have c14b0 : decide (x6_3 < a0_1) = true := decide_eq_true c14
           clear c14
           replace H := Option.bind_eq_some_iff.mp H
           obtain ⟨t182, A150, H⟩ := H
           replace H : (postbagref2_Days.l2 k3 (wrap64 (x3_3 + t182)) (wrap64 (x6_3 + 1)) a0_0 a0_1 a0_2 a0_3 a0_4 a0_5 a0_6) = some r := H
           have A15 := Aside0.mk A150
           clear A150
           have H' := Aside0.mk H
           clear H
           have hcz16_0 : wr.cell? ⟨gb178, 0, none⟩ = some (.int .i64 a0_0) := (blk_cell BK178.out 0).trans rfl
           have hcz16_1 : wr.cell? ⟨gb178, 1, none⟩ = some (.int .i64 a0_1) := (blk_cell BK178.out 1).trans rfl
           have hcz16_2 : wr.cell? ⟨gb178, 2, none⟩ = some (.int .i64 a0_2) := (blk_cell BK178.out 2).trans rfl
           have hcz16_3 : wr.cell? ⟨gb178, 3, none⟩ = some (.int .i64 a0_3) := (blk_cell BK178.out 3).trans rfl
           have hcz16_4 : wr.cell? ⟨gb178, 4, none⟩ = some (.int .i64 a0_4) := (blk_cell BK178.out 4).trans rfl
           have hcz16_5 : wr.cell? ⟨gb178, 5, none⟩ = some (.int .i64 a0_5) := (blk_cell BK178.out 5).trans rfl
           have hcz16_6 : wr.cell? ⟨gb178, 6, none⟩ = some (.int .i64 a0_6) := (blk_cell BK178.out 6).trans rfl
           have hfz16_0 := blk_frozen BK178.out 0
           have hfz16_1 := blk_frozen BK178.out 1
           have hfz16_2 := blk_frozen BK178.out 2
           have hfz16_3 := blk_frozen BK178.out 3
           have hfz16_4 := blk_frozen BK178.out 4
           have hfz16_5 := blk_frozen BK178.out 5
           have hfz16_6 := blk_frozen BK178.out 6
           go_wp2_with (first | ((with_reducible refine gate_callee (f := 83) rfl ?_); refine goesL_ (some 43) rfl rfl Tryd.func83 (by kernel_rfl) rfl #[.int .i64 a0_0, .int .i64 x6_3] rfl (by (try simp only [List.map_toArray, List.map_cons, List.map_nil]); first | done | rfl) ?_; (with_reducible refine (postbagref2_length.calls k3 a0_0 x6_3 t182 _ A15.out).mono ?_); rintro e w' ⟨rfl, ⟨nd, rfl⟩⟩; refine ⟨_, rfl, ?_⟩))
           go_roundg k3
           case measure => have := HK1.out; have := HK2.out; have := HK3.out; omega
           case rel => exact ⟨(wrap64 (x3_3 + t182)), (wrap64 (x6_3 + 1)), (by first | rfl | (simp; done) | (simp [*]; done)), (by first | rfl | (simp; done) | (simp [*]; done)), H', ⟨by have := HK1.out; have := HK2.out; have := HK3.out; omega⟩, ⟨by (with_reducible repeat first | refine blk_drewN ?_ _ | refine blk_alloc ?_ _); exact BK178.out⟩, ⟨by repeat (first | (with_reducible first | exact HB.out | apply below_alloc | apply pw_below_drewN | apply below_drew1 | refine below_set ?_ GE178.out) | exact HB.out)⟩⟩
          ·rw [if_neg c14] at H
           have c14b0 : decide (x6_3 < a0_1) = false := decide_eq_false c14
           clear c14
           obtain rfl := Option.some.inj H
           have hcz17_0 : wr.cell? ⟨gb178, 0, none⟩ = some (.int .i64 a0_0) := (blk_cell BK178.out 0).trans rfl
           have hcz17_1 : wr.cell? ⟨gb178, 1, none⟩ = some (.int .i64 a0_1) := (blk_cell BK178.out 1).trans rfl
           have hcz17_2 : wr.cell? ⟨gb178, 2, none⟩ = some (.int .i64 a0_2) := (blk_cell BK178.out 2).trans rfl
           have hcz17_3 : wr.cell? ⟨gb178, 3, none⟩ = some (.int .i64 a0_3) := (blk_cell BK178.out 3).trans rfl
           have hcz17_4 : wr.cell? ⟨gb178, 4, none⟩ = some (.int .i64 a0_4) := (blk_cell BK178.out 4).trans rfl
           have hcz17_5 : wr.cell? ⟨gb178, 5, none⟩ = some (.int .i64 a0_5) := (blk_cell BK178.out 5).trans rfl
           have hcz17_6 : wr.cell? ⟨gb178, 6, none⟩ = some (.int .i64 a0_6) := (blk_cell BK178.out 6).trans rfl
           have hfz17_0 := blk_frozen BK178.out 0
           have hfz17_1 := blk_frozen BK178.out 1
           have hfz17_2 := blk_frozen BK178.out 2
           have hfz17_3 := blk_frozen BK178.out 3
           have hfz17_4 := blk_frozen BK178.out 4
           have hfz17_5 := blk_frozen BK178.out 5
           have hfz17_6 := blk_frozen BK178.out 6
           go_wp2
           go_ret
           exact ⟨by first | rfl | (simp [errW_none, errW_some] <;> rfl) | (simp [*, errW_none, errW_some] <;> rfl), by repeat (first | (with_reducible first | exact HB.out | apply below_alloc | apply pw_below_drewN | apply below_drew1 | refine below_set ?_ GE178.out) | exact HB.out)⟩
 ·replace c3 := Bool.eq_false_iff.mpr c3
  subst c3
  have H1 : (some 0) = some r := by rw [if_neg (show ¬ (false = true) by decide)] at H; exact H
  clear H
  have H := H1
  clear H1
  obtain rfl := Option.some.inj H
  go_enter Tryd.func41, Tryd.ntmps41
  go_wp2_with (first | ((with_reducible refine gate_dst (N := 1) rfl ?_); refine box_event ?hg (N := 1) ?hd (cs := #[.int .i64 a0_0, .int .i64 a0_1, .int .i64 a0_2, .int .i64 a0_3, .int .i64 a0_4, .int .i64 a0_5, .int .i64 a0_6]) (t := 23) ?hr ?_; (case hd => rfl); (case hg => rfl); (case hr => first | (go_simp; done) | (go_simp; rfl)); intro gb178 hg w18 hbox hb; have n0_ := Aside0.mk (below_step (by repeat (first | (with_reducible first | exact HB.out | apply below_alloc | apply pw_below_drewN | apply below_drew1) | exact HB.out)) hb); have n1_ := Aside0.mk (hbox); have n2_ := Aside0.mk ((by rw [hg]; exact (below_size (by repeat (first | (with_reducible first | exact HB.out | apply below_alloc | apply pw_below_drewN | apply below_drew1) | exact HB.out))) : w.heap.size ≤ gb178)); have n3_ := Aside0.mk ((by rw [hg]; exact (below_size (by repeat (first | (with_reducible first | exact HB.out | apply below_alloc | apply pw_below_drewN | apply below_drew1) | exact HB.out))) : w.heap.size ≤ gb178)); clear HB; have HB := n0_; have BK178 := n1_; have GW178 := n2_; have GE178 := n3_; clear n0_ n1_ n2_ n3_; clear hb hbox hg; have hcz19_0 : w18.cell? ⟨gb178, 0, none⟩ = some (.int .i64 a0_0) := (blk_cell BK178.out 0).trans rfl; have hcz19_1 : w18.cell? ⟨gb178, 1, none⟩ = some (.int .i64 a0_1) := (blk_cell BK178.out 1).trans rfl; have hcz19_2 : w18.cell? ⟨gb178, 2, none⟩ = some (.int .i64 a0_2) := (blk_cell BK178.out 2).trans rfl; have hcz19_3 : w18.cell? ⟨gb178, 3, none⟩ = some (.int .i64 a0_3) := (blk_cell BK178.out 3).trans rfl; have hcz19_4 : w18.cell? ⟨gb178, 4, none⟩ = some (.int .i64 a0_4) := (blk_cell BK178.out 4).trans rfl; have hcz19_5 : w18.cell? ⟨gb178, 5, none⟩ = some (.int .i64 a0_5) := (blk_cell BK178.out 5).trans rfl; have hcz19_6 : w18.cell? ⟨gb178, 6, none⟩ = some (.int .i64 a0_6) := (blk_cell BK178.out 6).trans rfl; have hfz19_0 := blk_frozen BK178.out 0; have hfz19_1 := blk_frozen BK178.out 1; have hfz19_2 := blk_frozen BK178.out 2; have hfz19_3 := blk_frozen BK178.out 3; have hfz19_4 := blk_frozen BK178.out 4; have hfz19_5 := blk_frozen BK178.out 5; have hfz19_6 := blk_frozen BK178.out 6) | ((with_reducible refine gate_callee (f := 40) rfl ?_); refine goesL_ (some 8) rfl rfl Tryd.func40 (by kernel_rfl) rfl #[.agg #[.int .i64 a0_0, .int .i64 a0_1, .int .i64 a0_2, .int .i64 a0_3, .int .i64 a0_4, .int .i64 a0_5, .int .i64 a0_6]] rfl (by (try simp only [List.map_toArray, List.map_cons, List.map_nil]); first | done | rfl) ?_; (with_reducible refine (postbagref2_Valid.calls k a0_0 a0_1 a0_2 a0_3 a0_4 a0_5 a0_6 false _ A2.out).mono ?_); rintro e w20 ⟨rfl, hb⟩; refine ⟨_, rfl, ?_⟩; have n0_ := Aside0.mk (blk_below (g := gb178) (o := .cells #[.int .i64 a0_0, .int .i64 a0_1, .int .i64 a0_2, .int .i64 a0_3, .int .i64 a0_4, .int .i64 a0_5, .int .i64 a0_6] 23 (0, 0)) (by (with_reducible repeat first | refine blk_drewN ?_ _ | refine blk_alloc ?_ _); exact BK178.out) hb); have n1_ := Aside0.mk (below_step (by repeat (first | (with_reducible first | exact HB.out | apply below_alloc | apply pw_below_drewN | apply below_drew1 | refine below_set ?_ GE178.out) | exact HB.out)) hb); clear BK178; clear HB; have BK178 := n0_; have HB := n1_; clear n0_ n1_; (try clear hb); (try clear hb2); (try clear hk); (try clear hi)))
  go_ret
  exact ⟨by first | rfl | (simp [errW_none, errW_some] <;> rfl) | (simp [*, errW_none, errW_some] <;> rfl), by repeat (first | (with_reducible first | exact HB.out | apply below_alloc | apply pw_below_drewN | apply below_drew1 | refine below_set ?_ GE178.out) | exact HB.out)⟩
def postbagref2_Weekday.f (k : Nat) (a0_0 : Int) (a0_1 : Int) (a0_2 : Int) (a0_3 : Int) (a0_4 : Int) (a0_5 : Int) (a0_6 : Int) : Option (Int) := (postbagref2_Valid.f k a0_0 a0_1 a0_2 a0_3 a0_4 a0_5 a0_6).bind fun t184 => (if t184 = true then ((postbagref2_Days.f k a0_0 a0_1 a0_2 a0_3 a0_4 a0_5 a0_6).bind fun t185 => (some (Int.tmod (wrap64 ((Int.tmod (wrap64 (t185 + 4)) 7) + 7)) 7))) else (some 0))
set_option maxHeartbeats 8000000 in
set_option maxRecDepth 100000 in
theorem postbagref2_Weekday.calls (k : Nat) (a0_0 : Int) (a0_1 : Int) (a0_2 : Int) (a0_3 : Int) (a0_4 : Int) (a0_5 : Int) (a0_6 : Int) (r : Int) (w : World) (h : postbagref2_Weekday.f k a0_0 a0_1 a0_2 a0_3 a0_4 a0_5 a0_6 = some r) :
  Calls Tryd.prog 42 #[.agg #[.int .i64 a0_0, .int .i64 a0_1, .int .i64 a0_2, .int .i64 a0_3, .int .i64 a0_4, .int .i64 a0_5, .int .i64 a0_6]] w fun e w' => e = .returned (.int .i64 r) ∧ Below w.heap.size w w' := by
 have hu23 := Tryd.underlying23
 have HB := Aside0.mk (Below.refl w.heap.size w)
 have H : ((postbagref2_Valid.f k a0_0 a0_1 a0_2 a0_3 a0_4 a0_5 a0_6).bind fun t184 => (if t184 = true then ((postbagref2_Days.f k a0_0 a0_1 a0_2 a0_3 a0_4 a0_5 a0_6).bind fun t185 => (some (Int.tmod (wrap64 ((Int.tmod (wrap64 (t185 + 4)) 7) + 7)) 7))) else (some 0))) = some r := h
 clear h
 replace H := Option.bind_eq_some_iff.mp H
 obtain ⟨t184, A20, H⟩ := H
 replace H : (if t184 = true then ((postbagref2_Days.f k a0_0 a0_1 a0_2 a0_3 a0_4 a0_5 a0_6).bind fun t185 => (some (Int.tmod (wrap64 ((Int.tmod (wrap64 (t185 + 4)) 7) + 7)) 7))) else (some 0)) = some r := H
 have A2 := Aside0.mk A20
 clear A20
 refine (Classical.em (t184 = true)).elim (fun c3 => ?p3) (fun c3 => ?n3)
 case' p3 =>
  subst c3
  have H1 : ((postbagref2_Days.f k a0_0 a0_1 a0_2 a0_3 a0_4 a0_5 a0_6).bind fun t185 => (some (Int.tmod (wrap64 ((Int.tmod (wrap64 (t185 + 4)) 7) + 7)) 7))) = some r := by rw [if_pos rfl] at H; exact H
  clear H
  have H := H1
  clear H1
  replace H := Option.bind_eq_some_iff.mp H
  obtain ⟨t185, A40, H⟩ := H
  replace H : (some (Int.tmod (wrap64 ((Int.tmod (wrap64 (t185 + 4)) 7) + 7)) 7)) = some r := H
  have A4 := Aside0.mk A40
  clear A40
  obtain rfl := Option.some.inj H
 case' n3 =>
  replace c3 := Bool.eq_false_iff.mpr c3
  subst c3
  have H1 : (some 0) = some r := by rw [if_neg (show ¬ (false = true) by decide)] at H; exact H
  clear H
  have H := H1
  clear H1
  obtain rfl := Option.some.inj H
 all_goals
  go_enter Tryd.func42, Tryd.ntmps42
  go_wp2_with (first | ((with_reducible refine gate_dst (N := 1) rfl ?_); refine box_event ?hg (N := 1) ?hd (cs := #[.int .i64 a0_0, .int .i64 a0_1, .int .i64 a0_2, .int .i64 a0_3, .int .i64 a0_4, .int .i64 a0_5, .int .i64 a0_6]) (t := 23) ?hr ?_; (case hd => rfl); (case hg => rfl); (case hr => first | (go_simp; done) | (go_simp; rfl)); intro gb183 hg w5 hbox hb; have n0_ := Aside0.mk (below_step (by repeat (first | (with_reducible first | exact HB.out | apply below_alloc | apply pw_below_drewN | apply below_drew1) | exact HB.out)) hb); have n1_ := Aside0.mk (hbox); have n2_ := Aside0.mk ((by rw [hg]; exact (below_size (by repeat (first | (with_reducible first | exact HB.out | apply below_alloc | apply pw_below_drewN | apply below_drew1) | exact HB.out))) : w.heap.size ≤ gb183)); have n3_ := Aside0.mk ((by rw [hg]; exact (below_size (by repeat (first | (with_reducible first | exact HB.out | apply below_alloc | apply pw_below_drewN | apply below_drew1) | exact HB.out))) : w.heap.size ≤ gb183)); clear HB; have HB := n0_; have BK183 := n1_; have GW183 := n2_; have GE183 := n3_; clear n0_ n1_ n2_ n3_; clear hb hbox hg; have hcz6_0 : w5.cell? ⟨gb183, 0, none⟩ = some (.int .i64 a0_0) := (blk_cell BK183.out 0).trans rfl; have hcz6_1 : w5.cell? ⟨gb183, 1, none⟩ = some (.int .i64 a0_1) := (blk_cell BK183.out 1).trans rfl; have hcz6_2 : w5.cell? ⟨gb183, 2, none⟩ = some (.int .i64 a0_2) := (blk_cell BK183.out 2).trans rfl; have hcz6_3 : w5.cell? ⟨gb183, 3, none⟩ = some (.int .i64 a0_3) := (blk_cell BK183.out 3).trans rfl; have hcz6_4 : w5.cell? ⟨gb183, 4, none⟩ = some (.int .i64 a0_4) := (blk_cell BK183.out 4).trans rfl; have hcz6_5 : w5.cell? ⟨gb183, 5, none⟩ = some (.int .i64 a0_5) := (blk_cell BK183.out 5).trans rfl; have hcz6_6 : w5.cell? ⟨gb183, 6, none⟩ = some (.int .i64 a0_6) := (blk_cell BK183.out 6).trans rfl; have hfz6_0 := blk_frozen BK183.out 0; have hfz6_1 := blk_frozen BK183.out 1; have hfz6_2 := blk_frozen BK183.out 2; have hfz6_3 := blk_frozen BK183.out 3; have hfz6_4 := blk_frozen BK183.out 4; have hfz6_5 := blk_frozen BK183.out 5; have hfz6_6 := blk_frozen BK183.out 6) | ((with_reducible refine gate_callee (f := 40) rfl ?_); refine goesL_ (some 5) rfl rfl Tryd.func40 (by kernel_rfl) rfl #[.agg #[.int .i64 a0_0, .int .i64 a0_1, .int .i64 a0_2, .int .i64 a0_3, .int .i64 a0_4, .int .i64 a0_5, .int .i64 a0_6]] rfl (by (try simp only [List.map_toArray, List.map_cons, List.map_nil]); first | done | rfl) ?_; (with_reducible refine (postbagref2_Valid.calls k a0_0 a0_1 a0_2 a0_3 a0_4 a0_5 a0_6 _ _ A2.out).mono ?_); rintro e w7 ⟨rfl, hb⟩; refine ⟨_, rfl, ?_⟩; have n0_ := Aside0.mk (blk_below (g := gb183) (o := .cells #[.int .i64 a0_0, .int .i64 a0_1, .int .i64 a0_2, .int .i64 a0_3, .int .i64 a0_4, .int .i64 a0_5, .int .i64 a0_6] 23 (0, 0)) (by (with_reducible repeat first | refine blk_drewN ?_ _ | refine blk_alloc ?_ _); exact BK183.out) hb); have n1_ := Aside0.mk (below_step (by repeat (first | (with_reducible first | exact HB.out | apply below_alloc | apply pw_below_drewN | apply below_drew1 | refine below_set ?_ GE183.out) | exact HB.out)) hb); clear BK183; clear HB; have BK183 := n0_; have HB := n1_; clear n0_ n1_; (try clear hb); (try clear hb2); (try clear hk); (try clear hi); have hcz8_0 : w7.cell? ⟨gb183, 0, none⟩ = some (.int .i64 a0_0) := (blk_cell BK183.out 0).trans rfl; have hcz8_1 : w7.cell? ⟨gb183, 1, none⟩ = some (.int .i64 a0_1) := (blk_cell BK183.out 1).trans rfl; have hcz8_2 : w7.cell? ⟨gb183, 2, none⟩ = some (.int .i64 a0_2) := (blk_cell BK183.out 2).trans rfl; have hcz8_3 : w7.cell? ⟨gb183, 3, none⟩ = some (.int .i64 a0_3) := (blk_cell BK183.out 3).trans rfl; have hcz8_4 : w7.cell? ⟨gb183, 4, none⟩ = some (.int .i64 a0_4) := (blk_cell BK183.out 4).trans rfl; have hcz8_5 : w7.cell? ⟨gb183, 5, none⟩ = some (.int .i64 a0_5) := (blk_cell BK183.out 5).trans rfl; have hcz8_6 : w7.cell? ⟨gb183, 6, none⟩ = some (.int .i64 a0_6) := (blk_cell BK183.out 6).trans rfl; have hfz8_0 := blk_frozen BK183.out 0; have hfz8_1 := blk_frozen BK183.out 1; have hfz8_2 := blk_frozen BK183.out 2; have hfz8_3 := blk_frozen BK183.out 3; have hfz8_4 := blk_frozen BK183.out 4; have hfz8_5 := blk_frozen BK183.out 5; have hfz8_6 := blk_frozen BK183.out 6) | ((with_reducible refine gate_callee (f := 41) rfl ?_); refine goesL_ (some 8) rfl rfl Tryd.func41 (by kernel_rfl) rfl #[.agg #[.int .i64 a0_0, .int .i64 a0_1, .int .i64 a0_2, .int .i64 a0_3, .int .i64 a0_4, .int .i64 a0_5, .int .i64 a0_6]] rfl (by (try simp only [List.map_toArray, List.map_cons, List.map_nil]); first | done | rfl) ?_; (with_reducible refine (postbagref2_Days.calls k a0_0 a0_1 a0_2 a0_3 a0_4 a0_5 a0_6 t185 _ A4.out).mono ?_); rintro e w9 ⟨rfl, hb⟩; refine ⟨_, rfl, ?_⟩; have n0_ := Aside0.mk (blk_below (g := gb183) (o := .cells #[.int .i64 a0_0, .int .i64 a0_1, .int .i64 a0_2, .int .i64 a0_3, .int .i64 a0_4, .int .i64 a0_5, .int .i64 a0_6] 23 (0, 0)) (by (with_reducible repeat first | refine blk_drewN ?_ _ | refine blk_alloc ?_ _); exact BK183.out) hb); have n1_ := Aside0.mk (below_step (by repeat (first | (with_reducible first | exact HB.out | apply below_alloc | apply pw_below_drewN | apply below_drew1 | refine below_set ?_ GE183.out) | exact HB.out)) hb); clear BK183; clear HB; have BK183 := n0_; have HB := n1_; clear n0_ n1_; (try clear hb); (try clear hb2); (try clear hk); (try clear hi)))
  go_ret
  exact ⟨by first | rfl | (simp [errW_none, errW_some] <;> rfl) | (simp [*, errW_none, errW_some] <;> rfl), by repeat (first | (with_reducible first | exact HB.out | apply below_alloc | apply pw_below_drewN | apply below_drew1 | refine below_set ?_ GE183.out) | exact HB.out)⟩
end Go.Proofs.YtjlchnmpebdggaaDoor.Mo
end
section
namespace Go.Proofs.YtjlchnmpebdggaaDoor.Mo
open Go.RowKit Go.Proofs.YtjlchnmpebdggaaDoorW.PrintWords
def isDig (c : UInt8) : Bool := decide (48 ≤ c.toNat) && decide (c.toNat ≤ 57)
def dstep (n : Int) (c : UInt8) : Int := 10 * n + ((c.toNat : Int) - 48)
def dval (l : List UInt8) : Int := l.foldl dstep 0
def digitsP (s : ByteArray) : Int × Bool := if 1 ≤ s.size ∧ s.size ≤ 4 ∧ s.data.toList.all isDig = true then (dval s.data.toList, true) else (0, false)
theorem isDig_iff (c : UInt8) : isDig c = true ↔ 48 ≤ c.toNat ∧ c.toNat ≤ 57 := by simp [isDig]
theorem toList_len (s : ByteArray) : s.data.toList.length = s.size := by rw [Array.length_toList]; rfl
theorem bt_get (s : ByteArray) (i : Nat) (h : i < s.data.toList.length) : bt s (i : Int) = ((s.data.toList[i]).toNat : Int) := by
  have h2 : i < s.size := by rw [← toList_len]; exact h
  unfold bt
  rw [Int.toNat_natCast, dif_pos h2]
  rfl
theorem dval_snoc (l : List UInt8) (c : UInt8) : dval (l ++ [c]) = dstep (dval l) c := by simp [dval, List.foldl_append]
theorem dfold_bound : ∀ (l : List UInt8) (n : Int) (j : Nat), l.all isDig = true → 0 ≤ n → n < 10 ^ j → 0 ≤ l.foldl dstep n ∧ l.foldl dstep n < 10 ^ (j + l.length)
  | [], n, j, _, h0, h1 => ⟨h0, h1⟩
  | c :: l, n, j, h, h0, h1 => by
    rw [List.all_cons, Bool.and_eq_true] at h
    obtain ⟨h3, h4⟩ := (isDig_iff c).1 h.1
    have hp : (10 : Int) ^ (j + 1) = 10 ^ j * 10 := Int.pow_succ ..
    have := dfold_bound l (dstep n c) (j + 1) h.2 (by unfold dstep; omega) (by unfold dstep; omega)
    rw [List.foldl_cons, List.length_cons, show j + (l.length + 1) = j + 1 + l.length from by omega]
    exact this
theorem dval_bound (l : List UInt8) (h : l.all isDig = true) : 0 ≤ dval l ∧ dval l < 10 ^ l.length := by
  have := dfold_bound l 0 0 h (by decide) (by decide)
  rwa [Nat.zero_add] at this
theorem digit_step (n : Int) (c : UInt8) (h0 : 0 ≤ n) (h1 : n < 1000000000000) (h2 : 48 ≤ c.toNat) (h3 : c.toNat ≤ 57) :
    wrap64 ((wrap64 (10 * n)) + (((c.toNat : Int) - 48) % 256)) = dstep n c := by
  rw [IntWalk.wrap64_in (10 * n) ⟨by omega, by omega⟩, Int.emod_eq_of_lt (by omega) (by omega), IntWalk.wrap64_in _ ⟨by omega, by omega⟩]
  rfl
theorem next_step (i : Nat) (h : i < 1000000000000000) : wrap64 ((i : Int) + 1) = ((i + 1 : Nat) : Int) := by
  rw [IntWalk.wrap64_in _ ⟨by omega, by omega⟩]; omega
theorem digits_l0 (s : ByteArray) (hs : s.size ≤ 4) (d : Nat) : ∀ (k i : Nat), i ≤ s.size → s.size - i = d → d < k → (s.data.toList.take i).all isDig = true →
    moment_digits.l0 k s (dval (s.data.toList.take i)) (s.size : Int) (i : Int) = if (s.data.toList.drop i).all isDig = true then some (dval s.data.toList, true) else some (0, false) := by
  induction d with
  | zero =>
    intro k i hi hd hk ha
    obtain ⟨k, rfl⟩ : ∃ m, k = m + 1 := ⟨k - 1, by omega⟩
    have e : i = s.size := by omega
    subst e
    have hl := toList_len s
    simp only [moment_digits.l0]
    rw [if_neg (by omega), if_pos (by rw [List.drop_of_length_le (by omega)]; rfl), List.take_of_length_le (by omega)]
  | succ d ih =>
    intro k i hi hd hk ha
    obtain ⟨k, rfl⟩ : ∃ m, k = m + 1 := ⟨k - 1, by omega⟩
    have hl := toList_len s
    have hlt : i < s.data.toList.length := by omega
    have hb := bt_get s i hlt
    have h8 := (s.data.toList[i]).toNat_lt
    have hdr : s.data.toList.drop i = s.data.toList[i] :: s.data.toList.drop (i + 1) := List.drop_eq_getElem_cons hlt
    have htk : s.data.toList.take (i + 1) = s.data.toList.take i ++ [s.data.toList[i]] := by rw [List.take_succ_eq_append_getElem hlt]
    obtain ⟨b1, b2⟩ := dval_bound _ ha
    rw [List.length_take, Nat.min_eq_left (by omega)] at b2
    have b3 : dval (s.data.toList.take i) < 10000 := by
      have : (10 : Int) ^ i ≤ 10 ^ 4 := by
        have h4 : i = 0 ∨ i = 1 ∨ i = 2 ∨ i = 3 := by omega
        rcases h4 with rfl | rfl | rfl | rfl <;> decide
      omega
    simp only [moment_digits.l0]
    rw [if_pos (by omega), if_pos (by omega), if_pos (by omega), hb, hdr]
    generalize hc : s.data.toList[i] = c at *
    by_cases c1 : c.toNat < 48
    · rw [if_pos (by omega), if_neg (by simp [isDig]; omega)]
    · rw [if_neg (by omega)]
      by_cases c2 : c.toNat > 57
      · rw [if_pos (by omega), if_neg (by simp [isDig]; omega)]
      · rw [if_neg (by omega)]
        have hdig : isDig c = true := (isDig_iff c).2 ⟨by omega, by omega⟩
        have e1 : wrap64 ((wrap64 (10 * dval (s.data.toList.take i))) + (((c.toNat : Int) - 48) % 256)) = dval (s.data.toList.take (i + 1)) := by
          rw [htk, dval_snoc, digit_step _ _ b1 (by omega) (by omega) (by omega)]
        rw [e1, next_step i (by omega), ih k (i + 1) (by omega) (by omega) (by omega) (by rw [htk, List.all_append, ha]; simp [hdig])]
        simp only [List.all_cons, hdig, Bool.true_and]
theorem digits_f (k : Nat) (hk : 7 ≤ k) (s : ByteArray) : moment_digits.f k s = some (digitsP s) := by
  have hl := toList_len s
  unfold moment_digits.f
  obtain ⟨k, rfl⟩ : ∃ m, k = m + 1 := ⟨k - 1, by omega⟩
  by_cases h0 : s.toList = []
  · have hz : s.size = 0 := by rw [ByteArray.toList_eq] at h0; rw [← hl, h0]; rfl
    rw [if_pos h0]
    simp only [moment_digits.j0]
    unfold digitsP
    rw [if_pos trivial, if_neg (by omega)]
  · have hz : s.size ≠ 0 := by
      intro h; apply h0; rw [ByteArray.toList_eq]; exact List.eq_nil_of_length_eq_zero (by omega)
    rw [if_neg h0]
    simp only [moment_digits.j0]
    by_cases h4 : s.size > 4
    · rw [if_pos (by exact decide_eq_true (by omega))]
      unfold digitsP
      rw [if_neg (by omega)]
    · rw [if_neg (by intro h; have := of_decide_eq_true h; omega)]
      have := digits_l0 s (by omega) s.size k 0 (by omega) (by omega) (by omega) rfl
      simp only [List.take_zero, List.drop_zero] at this
      rw [show ((0 : Nat) : Int) = 0 from rfl] at this
      have e0 : dval [] = 0 := rfl
      rw [e0] at this
      rw [this]
      unfold digitsP
      by_cases ha : s.data.toList.all isDig = true
      · rw [if_pos ha, if_pos ⟨by omega, by omega, ha⟩]
      · rw [if_neg ha, if_neg (fun h => ha h.2.2)]
end Go.Proofs.YtjlchnmpebdggaaDoor.Mo
end
section
namespace Go.Proofs.YtjlchnmpebdggaaDoor.Mo
open Go.RowKit Go.Proofs.YtjlchnmpebdggaaDoorW.PrintWords
theorem w64 (n : Int) (h0 : -1000000000000000 ≤ n) (h1 : n ≤ 1000000000000000) : wrap64 n = n := IntWalk.wrap64_in _ ⟨by omega, by omega⟩
theorem month_cases {m : Int} (h1 : 1 ≤ m) (h2 : m ≤ 12) : m = 1 ∨ m = 2 ∨ m = 3 ∨ m = 4 ∨ m = 5 ∨ m = 6 ∨ m = 7 ∨ m = 8 ∨ m = 9 ∨ m = 10 ∨ m = 11 ∨ m = 12 := by omega
theorem length_range (y m : Int) (h1 : 1 ≤ m) (h2 : m ≤ 12) : 28 ≤ lengthP y m ∧ lengthP y m ≤ 31 := by
  unfold lengthP
  rcases month_cases h1 h2 with rfl | rfl | rfl | rfl | rfl | rfl | rfl | rfl | rfl | rfl | rfl | rfl <;> split <;> decide
theorem leap_ref (y : Int) : postbagref2_leap.f y = some (leapB y) := by
  unfold postbagref2_leap.f leapB
  by_cases h1 : y.tmod 4 = 0
  · by_cases h2 : y.tmod 100 = 0 <;> simp [h1, h2]
  · simp [h1]
theorem length_ref (k : Nat) (hk : 1 ≤ k) (y m : Int) (h1 : 1 ≤ m) (h2 : m ≤ 12) : postbagref2_length.f k y m = some (lengthP y m) := by
  obtain ⟨k, rfl⟩ : ∃ n, k = n + 1 := ⟨k - 1, by omega⟩
  unfold postbagref2_length.f lengthP
  cases hl : leapB y <;> rcases month_cases h1 h2 with rfl | rfl | rfl | rfl | rfl | rfl | rfl | rfl | rfl | rfl | rfl | rfl <;> simp [postbagref2_length.j0, leap_ref, hl, monthDays]
theorem isDay_ref (k : Nat) (hk : 1 ≤ k) (y m d h mi s z : Int) : postbagref2_IsDay.f k y m d h mi s z = some (isDayB y m d) := by
  unfold postbagref2_IsDay.f
  have hf : ∀ (p : Prop), (isDayB y m d = true → ¬ p) → p → isDayB y m d = false := fun p h1 h2 => Bool.eq_false_iff.2 (fun h => h1 h h2)
  have hi := isDay_iff y m d
  by_cases h1 : y < 1
  · rw [if_pos h1, hf (y < 1) (fun q => by have := hi.1 q; omega) h1]
  · rw [if_neg h1]
    by_cases h2 : y > 9999
    · rw [if_pos h2, hf (y > 9999) (fun q => by have := hi.1 q; omega) h2]
    · rw [if_neg h2]
      by_cases h3 : m < 1
      · rw [if_pos h3, hf (m < 1) (fun q => by have := hi.1 q; omega) h3]
      · rw [if_neg h3]
        by_cases h4 : m > 12
        · rw [if_pos h4, hf (m > 12) (fun q => by have := hi.1 q; omega) h4]
        · rw [if_neg h4]
          by_cases h5 : d < 1
          · rw [if_pos h5, hf (d < 1) (fun q => by have := hi.1 q; omega) h5]
          · rw [if_neg h5, length_ref k hk y m (by omega) (by omega)]
            simp only [Option.bind_some]
            congr 1
            unfold isDayB
            apply decide_eq_decide.2
            exact ⟨fun q => ⟨by omega, by omega, by omega, by omega, by omega, q⟩, fun q => q.2.2.2.2.2⟩
theorem valid_ref (k : Nat) (hk : 1 ≤ k) (y m d h mi s z : Int) : postbagref2_Valid.f k y m d h mi s z = some (validB y m d h mi s z) := by
  unfold postbagref2_Valid.f validB
  rw [isDay_ref k hk]
  simp only [Option.bind_some]
  cases isDayB y m d with
  | false => rw [if_neg (by simp)]; rfl
  | true =>
    rw [if_pos rfl, Bool.true_and]
    have hf : ∀ (p : Prop), (timeB h mi s z = true → p) → ¬ p → timeB h mi s z = false := fun p h1 h2 => Bool.eq_false_iff.2 (fun h => h2 (h1 h))
    have hi := time_iff h mi s z
    by_cases h1 : h ≥ 0
    · rw [if_pos h1]
      by_cases h2 : h ≤ 23
      · rw [if_pos h2]
        by_cases h3 : mi ≥ 0
        · rw [if_pos h3]
          by_cases h4 : mi ≤ 59
          · rw [if_pos h4]
            by_cases h5 : s ≥ 0
            · rw [if_pos h5]
              by_cases h6 : s ≤ 59
              · rw [if_pos h6]
                by_cases h7 : z ≥ (-1439)
                · rw [if_pos h7]
                  congr 1
                  unfold timeB
                  apply decide_eq_decide.2
                  exact ⟨fun q => ⟨by omega, by omega, by omega, by omega, by omega, by omega, by omega, q⟩, fun q => q.2.2.2.2.2.2.2⟩
                · rw [if_neg h7, hf (z ≥ (-1439)) (fun q => by have := hi.1 q; omega) h7]
              · rw [if_neg h6, hf (s ≤ 59) (fun q => by have := hi.1 q; omega) h6]
            · rw [if_neg h5, hf (s ≥ 0) (fun q => by have := hi.1 q; omega) h5]
          · rw [if_neg h4, hf (mi ≤ 59) (fun q => by have := hi.1 q; omega) h4]
        · rw [if_neg h3, hf (mi ≥ 0) (fun q => by have := hi.1 q; omega) h3]
      · rw [if_neg h2, hf (h ≤ 23) (fun q => by have := hi.1 q; omega) h2]
    · rw [if_neg h1, hf (h ≥ 0) (fun q => by have := hi.1 q; omega) h1]
def yearLen (y : Int) : Int := if leapB y = true then 366 else 365
theorem year_ref (y : Int) : postbagref2_year.f y = some (yearLen y) := by
  unfold postbagref2_year.f yearLen
  rw [leap_ref]
  simp only [Option.bind_some]
  split <;> rfl
def dby (y : Int) : Int := 365 * (y - 1) + (y - 1) / 4 - (y - 1) / 100 + (y - 1) / 400
theorem dby_succ (y : Int) (h : 1 ≤ y) : dby (y + 1) = dby y + yearLen y := by
  unfold dby yearLen leapB
  rw [Int.tmod_eq_emod_of_nonneg (by omega), Int.tmod_eq_emod_of_nonneg (by omega), Int.tmod_eq_emod_of_nonneg (by omega)]
  by_cases h4 : y % 4 = 0
  · by_cases h100 : y % 100 = 0
    · by_cases h400 : y % 400 = 0
      · simp only [h4, h100, h400]; simp; omega
      · simp only [h4, h100]; simp [h400]; omega
    · simp only [h4]; simp [h100]; omega
  · simp [h4]; omega
theorem yearLen_range (y : Int) : 365 ≤ yearLen y ∧ yearLen y ≤ 366 := by unfold yearLen; split <;> omega
theorem dby_1970 : dby 1970 = 719162 := by decide
def cumN (y : Int) : Nat → Int
  | 0 => 0
  | n + 1 => cumN y n + lengthP y ((n : Int) + 1)
theorem cumN_range (y : Int) : ∀ n : Nat, n ≤ 12 → 0 ≤ cumN y n ∧ cumN y n ≤ 31 * n
  | 0, _ => by unfold cumN; omega
  | n + 1, h => by
    have h1 := cumN_range y n (by omega)
    have h2 := length_range y ((n : Int) + 1) (by omega) (by omega)
    unfold cumN
    omega
def daysP (y m d : Int) : Int := dby y + cumN y (m - 1).toNat + d - 1 - 719162
theorem cum_step (y : Int) (j : Nat) (hj : 1 ≤ j) : cumN y j = cumN y (j - 1) + lengthP y (j : Int) := by
  obtain ⟨q, rfl⟩ : ∃ q, j = q + 1 := ⟨j - 1, by omega⟩
  have e : cumN y (q + 1) = cumN y q + lengthP y ((q : Int) + 1) := rfl
  rw [e, show q + 1 - 1 = q from rfl, show ((q + 1 : Nat) : Int) = (q : Int) + 1 from by omega]
set_option maxRecDepth 100000 in
theorem ref_l2 (y m d h mi s z : Int) : ∀ (n k j : Nat) (x3 : Int), 1 ≤ j → m = j + n → m ≤ 12 → n + 1 < k → -10000000 ≤ x3 → x3 ≤ 10000000 - 31 * n →
    postbagref2_Days.l2 k x3 j y m d h mi s z = some (x3 + (cumN y (j - 1 + n) - cumN y (j - 1))) := by
  intro n
  induction n with
  | zero =>
    intro k j x3 _ hm _ hk h0 h1
    obtain ⟨k, rfl⟩ : ∃ q, k = q + 1 := ⟨k - 1, by omega⟩
    simp only [postbagref2_Days.l2]
    rw [if_neg (by omega)]
    congr 1
    simp
  | succ n ih =>
    intro k j x3 hj hm hm12 hk h0 h1
    obtain ⟨k, rfl⟩ : ∃ q, k = q + 1 := ⟨k - 1, by omega⟩
    have hl := length_range y (j : Int) (by omega) (by omega)
    simp only [postbagref2_Days.l2]
    rw [if_pos (by omega), length_ref k (by omega) y (j : Int) (by omega) (by omega)]
    simp only [Option.bind_some]
    have hc := cum_step y j hj
    rw [w64 _ (by omega) (by omega), w64 _ (by omega) (by omega), show (j : Int) + 1 = ((j + 1 : Nat) : Int) from by omega,
      ih k (j + 1) (x3 + lengthP y (j : Int)) (by omega) (by omega) hm12 (by omega) (by omega) (by omega)]
    congr 1
    rw [show j + 1 - 1 = j from by omega, show j - 1 + (n + 1) = j + n from by omega]
    omega
set_option maxRecDepth 100000 in
theorem l1_spec (y m d h mi s z : Int) (h1 : 1 ≤ m) (h2 : m ≤ 12) : ∀ (n k : Nat) (i x3 : Int), 1 ≤ i → i + n = 1970 → n + 20 < k → -5000000 + 366 * n ≤ x3 → x3 ≤ 5000000 →
    postbagref2_Days.l1 k x3 i y m d h mi s z = some (x3 - (dby 1970 - dby i) + cumN y (m - 1).toNat) := by
  intro n
  induction n with
  | zero =>
    intro k i x3 hi hn hk hb hb2
    obtain ⟨k, rfl⟩ : ∃ q, k = q + 1 := ⟨k - 1, by omega⟩
    have : i = 1970 := by omega
    subst this
    simp only [postbagref2_Days.l1]
    rw [if_neg (by omega)]
    have := ref_l2 y m d h mi s z (m - 1).toNat k 1 x3 (by omega) (by omega) h2 (by omega) (by omega) (by omega)
    rw [show ((1 : Nat) : Int) = 1 from rfl] at this
    rw [this]
    congr 1
    have e : cumN y (1 - 1) = 0 := rfl
    rw [e, show 1 - 1 + (m - 1).toNat = (m - 1).toNat from by omega]
    omega
  | succ n ih =>
    intro k i x3 hi hn hk hb hb2
    obtain ⟨k, rfl⟩ : ∃ q, k = q + 1 := ⟨k - 1, by omega⟩
    have hy := yearLen_range i
    have hd := dby_succ i hi
    simp only [postbagref2_Days.l1]
    rw [if_pos (by omega), year_ref]
    simp only [Option.bind_some]
    rw [w64 _ (by omega) (by omega), w64 _ (by omega) (by omega), ih k (i + 1) (x3 - yearLen i) (by omega) (by omega) (by omega) (by omega) (by omega)]
    congr 1
    omega
theorem l1_late (y m d h mi s z : Int) (h1 : 1 ≤ m) (h2 : m ≤ 12) (k : Nat) (i x3 : Int) (hi : 1970 ≤ i) (hk : 20 < k) (hb : -5000000 ≤ x3) (hb2 : x3 ≤ 5000000) :
    postbagref2_Days.l1 k x3 i y m d h mi s z = some (x3 + cumN y (m - 1).toNat) := by
  obtain ⟨k, rfl⟩ : ∃ q, k = q + 1 := ⟨k - 1, by omega⟩
  simp only [postbagref2_Days.l1]
  rw [if_neg (by omega)]
  have := ref_l2 y m d h mi s z (m - 1).toNat k 1 x3 (by omega) (by omega) h2 (by omega) (by omega) (by omega)
  rw [show ((1 : Nat) : Int) = 1 from rfl] at this
  rw [this]
  congr 1
  have e : cumN y (1 - 1) = 0 := rfl
  rw [e, show 1 - 1 + (m - 1).toNat = (m - 1).toNat from by omega]
  omega
set_option maxRecDepth 100000 in
theorem l0_spec (y m d h mi s z : Int) (h1 : 1 ≤ m) (h2 : m ≤ 12) (hy0 : 1 ≤ y) (hy2 : y ≤ 9999) : ∀ (n k : Nat) (i x3 : Int), 1970 ≤ i → (i ≤ y → i + n = y) → (y < i → n = 0 ∧ i = 1970) → n + 2100 < k → -100 ≤ x3 → x3 ≤ 5000000 - 366 * n →
    postbagref2_Days.l0 k x3 i y m d h mi s z = some (x3 + (dby y - dby i) + cumN y (m - 1).toNat) := by
  intro n
  induction n with
  | zero =>
    intro k i x3 hi hn hn2 hk hb hb2
    obtain ⟨k, rfl⟩ : ∃ q, k = q + 1 := ⟨k - 1, by omega⟩
    simp only [postbagref2_Days.l0]
    rw [if_neg (by omega)]
    by_cases hc : 1970 ≤ y
    · have : i = y := by omega
      subst this
      rw [l1_late i m d h mi s z h1 h2 k i x3 hi (by omega) (by omega) (by omega)]
      congr 1
      omega
    · have : i = 1970 := by omega
      subst this
      rw [l1_spec y m d h mi s z h1 h2 (1970 - y).toNat k y x3 hy0 (by omega) (by omega) (by omega) (by omega)]
      congr 1
      omega
  | succ n ih =>
    intro k i x3 hi hn hn2 hk hb hb2
    obtain ⟨k, rfl⟩ : ∃ q, k = q + 1 := ⟨k - 1, by omega⟩
    have hy := yearLen_range i
    have hd := dby_succ i (by omega)
    have hiy : i ≤ y := by
      by_cases q : i ≤ y
      · exact q
      · have := hn2 (by omega); omega
    have := hn hiy
    simp only [postbagref2_Days.l0]
    rw [if_pos (by omega), year_ref]
    simp only [Option.bind_some]
    rw [w64 _ (by omega) (by omega), w64 _ (by omega) (by omega), ih k (i + 1) (x3 + yearLen i) (by omega) (by omega) (by omega) (by omega) (by omega) (by omega)]
    congr 1
    omega
theorem valid_facts {y m d h mi s z : Int} (hv : validB y m d h mi s z = true) : (1 ≤ y ∧ y ≤ 9999 ∧ 1 ≤ m ∧ m ≤ 12 ∧ 1 ≤ d ∧ d ≤ lengthP y m) ∧ (0 ≤ h ∧ h ≤ 23 ∧ 0 ≤ mi ∧ mi ≤ 59 ∧ 0 ≤ s ∧ s ≤ 59 ∧ -1439 ≤ z ∧ z ≤ 1439) :=
  ⟨(isDay_iff y m d).1 ((valid_iff y m d h mi s z).1 hv).1, (time_iff h mi s z).1 ((valid_iff y m d h mi s z).1 hv).2⟩
def daysV (y m d h mi s z : Int) : Int := if validB y m d h mi s z = true then daysP y m d else 0
theorem days_ref (k : Nat) (hk : 20000 ≤ k) (y m d h mi s z : Int) : postbagref2_Days.f k y m d h mi s z = some (daysV y m d h mi s z) := by
  unfold postbagref2_Days.f daysV
  rw [valid_ref k (by omega)]
  simp only [Option.bind_some]
  cases hv : validB y m d h mi s z with
  | false => rfl
  | true =>
    obtain ⟨⟨a1, a2, a3, a4, a5, a6⟩, _⟩ := valid_facts hv
    have hl := length_range y m a3 a4
    rw [if_pos rfl, if_pos rfl, w64 _ (by omega) (by omega), l0_spec y m d h mi s z a3 a4 a1 a2 (y - 1970).toNat k 1970 (d - 1) (by omega) (by omega) (by omega) (by omega) (by omega) (by omega), dby_1970]
    unfold daysP
    congr 1
    omega
end Go.Proofs.YtjlchnmpebdggaaDoor.Mo
end
section
namespace Go.Proofs.YtjlchnmpebdggaaDoor.Mo
open Go.RowKit Go.Proofs.YtjlchnmpebdggaaDoorW.PrintWords
set_option maxRecDepth 100000 in
theorem mom_l0 (y m d h mi s z : Int) : ∀ (n k j : Nat) (x4 : Int), 1 ≤ j → m = j + n → m ≤ 12 → n + 1 < k → -10000000 ≤ x4 → x4 ≤ 10000000 - 31 * n →
    moment_Days.l0 k x4 j y m d h mi s z = some (x4 + (cumN y (j - 1 + n) - cumN y (j - 1)) - 719162) := by
  intro n
  induction n with
  | zero =>
    intro k j x4 _ hm _ hk h0 h1
    obtain ⟨k, rfl⟩ : ∃ q, k = q + 1 := ⟨k - 1, by omega⟩
    simp only [moment_Days.l0]
    rw [if_neg (by omega), w64 _ (by omega) (by omega)]
    congr 1
    simp
  | succ n ih =>
    intro k j x4 hj hm hm12 hk h0 h1
    obtain ⟨k, rfl⟩ : ∃ q, k = q + 1 := ⟨k - 1, by omega⟩
    have hl := length_range y (j : Int) (by omega) (by omega)
    have hlf : moment_length.f y (j : Int) = some (lengthP y (j : Int)) := if_pos ⟨by omega, by omega⟩
    simp only [moment_Days.l0]
    rw [if_pos (by omega), hlf]
    simp only [Option.bind_some]
    have hc := cum_step y j hj
    rw [w64 _ (by omega) (by omega), w64 _ (by omega) (by omega), show (j : Int) + 1 = ((j + 1 : Nat) : Int) from by omega, ih k (j + 1) (x4 + lengthP y (j : Int)) (by omega) (by omega) hm12 (by omega) (by omega) (by omega)]
    congr 1
    rw [show j + 1 - 1 = j from by omega, show j - 1 + (n + 1) = j + n from by omega]
    omega
theorem dby_open (y : Int) (h1 : 1 ≤ y) (h2 : y ≤ 9999) (d : Int) (d1 : 1 ≤ d) (d2 : d ≤ 31) :
    wrap64 ((wrap64 ((wrap64 ((wrap64 ((wrap64 ((wrap64 (365 * (wrap64 (y - 1)))) + (wrap64 (Int.tdiv (wrap64 (y - 1)) 4)))) - (wrap64 (Int.tdiv (wrap64 (y - 1)) 100)))) + (wrap64 (Int.tdiv (wrap64 (y - 1)) 400)))) + d)) - 1) = dby y + d - 1 := by
  rw [w64 (y - 1) (by omega) (by omega), Int.tdiv_eq_ediv_of_nonneg (by omega), Int.tdiv_eq_ediv_of_nonneg (by omega), Int.tdiv_eq_ediv_of_nonneg (by omega)]
  rw [w64 (365 * (y - 1)) (by omega) (by omega), w64 ((y - 1) / 4) (by omega) (by omega), w64 ((y - 1) / 100) (by omega) (by omega), w64 ((y - 1) / 400) (by omega) (by omega)]
  rw [w64 (365 * (y - 1) + (y - 1) / 4) (by omega) (by omega), w64 (365 * (y - 1) + (y - 1) / 4 - (y - 1) / 100) (by omega) (by omega), w64 (365 * (y - 1) + (y - 1) / 4 - (y - 1) / 100 + (y - 1) / 400) (by omega) (by omega),
    w64 (365 * (y - 1) + (y - 1) / 4 - (y - 1) / 100 + (y - 1) / 400 + d) (by omega) (by omega), w64 _ (by omega) (by omega)]
  rfl
theorem dby_range (y : Int) (h1 : 1 ≤ y) (h2 : y ≤ 10000) : 0 ≤ dby y ∧ dby y ≤ 3652425 := by unfold dby; omega
theorem days_f (k : Nat) (hk : 20 ≤ k) (y m d h mi s z : Int) : moment_Days.f k y m d h mi s z = some (daysV y m d h mi s z) := by
  unfold moment_Days.f daysV
  rw [valid_f]
  simp only [Option.bind_some]
  cases hv : validB y m d h mi s z with
  | false => rfl
  | true =>
    obtain ⟨⟨a1, a2, a3, a4, a5, a6⟩, _⟩ := valid_facts hv
    have hl := length_range y m a3 a4
    have hd := dby_range y a1 (by omega)
    rw [if_pos rfl, if_pos rfl, dby_open y a1 a2 d a5 (by omega)]
    have := mom_l0 y m d h mi s z (m - 1).toNat k 1 (dby y + d - 1) (by omega) (by omega) a4 (by omega) (by omega) (by omega)
    rw [show ((1 : Nat) : Int) = 1 from rfl] at this
    rw [this]
    congr 1
    have e : cumN y (1 - 1) = 0 := rfl
    rw [e, show 1 - 1 + (m - 1).toNat = (m - 1).toNat from by omega]
    unfold daysP
    omega
theorem daysP_range {y m d h mi s z : Int} (hv : validB y m d h mi s z = true) : -719162 ≤ daysP y m d ∧ daysP y m d ≤ 2934000 := by
  obtain ⟨⟨a1, a2, a3, a4, a5, a6⟩, _⟩ := valid_facts hv
  have hl := length_range y m a3 a4
  have hd := dby_range y a1 (by omega)
  have hc := cumN_range y (m - 1).toNat (by omega)
  unfold daysP
  omega
theorem daysV_range (y m d h mi s z : Int) : -719162 ≤ daysV y m d h mi s z ∧ daysV y m d h mi s z ≤ 2934000 := by
  unfold daysV
  split
  · exact daysP_range ‹_›
  · omega
def weekP7 (y m d h mi s z : Int) : Int := if validB y m d h mi s z = true then (daysP y m d + 4) % 7 else 0
theorem floor_f (a b : Int) (hb : 0 < b) (h0 : -1000000000000 ≤ a) (h1 : a ≤ 1000000000000) (hb1 : b ≤ 1000000) : moment_floor.f a b = some (a / b, a % b) := by
  unfold moment_floor.f
  have hs : Int.sign b = 1 := Int.sign_eq_one_of_pos hb
  have hn : (b.natAbs : Int) = b := Int.natAbs_of_nonneg (by omega)
  have hm0 := Int.emod_nonneg a (show b ≠ 0 by omega)
  have hm1 := Int.emod_lt_of_pos a hb
  have hq : -1000000000000 ≤ a / b ∧ a / b ≤ 1000000000000 := by
    have h := Int.mul_ediv_add_emod a b
    constructor
    · exact Int.le_ediv_of_mul_le hb (by have : -1000000000000 * b ≤ -1000000000000 * 1 := Int.mul_le_mul_of_nonpos_left (by omega) (by omega); omega)
    · by_cases ha : 0 ≤ a
      · exact Int.le_trans (Int.ediv_le_self b ha) h1
      · have : a / b < 0 := Int.ediv_neg_of_neg_of_pos (by omega) hb
        omega
  rw [if_neg (by omega), Int.tdiv_eq_ediv, Int.tmod_eq_emod, hs]
  by_cases hc : 0 ≤ a ∨ b ∣ a
  · rw [if_pos hc, if_pos hc, show ((0 : Nat) : Int) = 0 from rfl, if_neg (by omega), w64 _ (by omega) (by omega)]
    simp
  · rw [if_neg hc, if_neg hc, hn]
    have hne : a % b ≠ 0 := fun h => hc (.inr (Int.dvd_of_emod_eq_zero h))
    rw [if_pos (by omega), w64 (a / b + 1) (by omega) (by omega), w64 (a / b + 1 - 1) (by omega) (by omega), w64 (a % b - b + b) (by omega) (by omega)]
    congr 2 <;> omega
theorem week_f (k : Nat) (hk : 20 ≤ k) (y m d h mi s z : Int) : moment_Weekday.f k y m d h mi s z = some (weekP7 y m d h mi s z) := by
  unfold moment_Weekday.f weekP7
  rw [valid_f, days_f k hk]
  simp only [Option.bind_some]
  have hr := daysV_range y m d h mi s z
  have hv2 : daysV y m d h mi s z = if validB y m d h mi s z = true then daysP y m d else 0 := rfl
  cases hv : validB y m d h mi s z with
  | false => rfl
  | true =>
    rw [hv, if_pos rfl] at hv2
    rw [if_pos rfl, if_pos rfl, w64 _ (by omega) (by omega), floor_f _ 7 (by omega) (by omega) (by omega) (by omega), hv2]
    rfl
theorem week_ref (k : Nat) (hk : 20000 ≤ k) (y m d h mi s z : Int) : postbagref2_Weekday.f k y m d h mi s z = some (weekP7 y m d h mi s z) := by
  unfold postbagref2_Weekday.f weekP7
  rw [valid_ref k (by omega), days_ref k hk]
  simp only [Option.bind_some]
  have hr := daysV_range y m d h mi s z
  have hv2 : daysV y m d h mi s z = if validB y m d h mi s z = true then daysP y m d else 0 := rfl
  cases hv : validB y m d h mi s z with
  | false => rfl
  | true =>
    rw [hv, if_pos rfl] at hv2
    rw [if_pos rfl, if_pos rfl, hv2]
    generalize daysP y m d = D at *
    rw [w64 (D + 4) (by omega) (by omega)]
    congr 1
    have e := Int.tmod_eq_emod (a := D + 4) (b := 7)
    rw [e]
    have hn : ((7 : Int).natAbs : Int) = 7 := rfl
    split
    · rw [show ((0 : Nat) : Int) = 0 from rfl, w64 _ (by omega) (by omega), Int.tmod_eq_emod_of_nonneg (by omega)]; omega
    · rw [hn, w64 _ (by omega) (by omega), Int.tmod_eq_emod_of_nonneg (by omega)]; omega
end Go.Proofs.YtjlchnmpebdggaaDoor.Mo
end
section
namespace Go.Proofs.YtjlchnmpebdggaaDoor.Mo
open Go.RowKit Go.Proofs.YtjlchnmpebdggaaDoorW.PrintWords
def headerT (y m d h mi s z : Int) : ByteArray := weekL.getD (weekP7 y m d h mi s z).toNat ⟨#[]⟩ ++ (⟨#[44, 32]⟩ : ByteArray) ++ plainP d ++ (⟨#[32]⟩ : ByteArray) ++ monthL.getD (m - 1).toNat ⟨#[]⟩ ++ (⟨#[32]⟩ : ByteArray) ++ fourP y ++ (⟨#[32]⟩ : ByteArray) ++ clockP h mi s z
def printHeaderP (y m d h mi s z : Int) : ByteArray × Int := if refuseP y m d h mi s z = 0 then (headerT y m d h mi s z, 0) else (⟨#[]⟩, refuseP y m d h mi s z)
set_option maxHeartbeats 8000000 in
set_option maxRecDepth 100000 in
theorem printHeader_calls (y m d h mi s z : Int) (w : World) (hL : Laid w) :
    Calls Tryd.prog 30 #[.agg #[.int .i64 y, .int .i64 m, .int .i64 d, .int .i64 h, .int .i64 mi, .int .i64 s, .int .i64 z]] w fun e w' => e = .returned (.tuple #[.string (printHeaderP y m d h mi s z).1, .int .i64 (printHeaderP y m d h mi s z).2]) ∧ Below w.heap.size w w' := by
  have HR0 := refused_f y m d h mi s z
  by_cases hr : refuseP y m d h mi s z = 0
  · obtain ⟨hd, hv⟩ := refuse_zero hr
    obtain ⟨a1, a2, a3, a4, a5, a6⟩ := (isDay_iff _ _ _).1 hd
    obtain ⟨b1, b2, b3, b4, b5, b6, b7, b8⟩ := (time_iff _ _ _ _).1 ((valid_iff _ _ _ _ _ _ _).1 hv).2
    have hp : printHeaderP y m d h mi s z = (headerT y m d h mi s z, 0) := if_pos hr
    rw [hp]
    rw [hr] at HR0
    have HR := Lib.hid HR0
    obtain ⟨n, rfl⟩ : ∃ n : Nat, m = n + 1 := ⟨(m - 1).toNat, by omega⟩
    have hn : n < 12 := by omega
    have hwr0 : 0 ≤ weekP7 y ((n : Int) + 1) d h mi s z ∧ weekP7 y ((n : Int) + 1) d h mi s z ≤ 6 := by unfold weekP7; split <;> omega
    obtain ⟨wk, hwk⟩ : ∃ q : Nat, weekP7 y ((n : Int) + 1) d h mi s z = (q : Int) := ⟨(weekP7 y ((n : Int) + 1) d h mi s z).toNat, by omega⟩
    have HW := Lib.hid ((week_f 30000 (by omega) y ((n : Int) + 1) d h mi s z).trans (congrArg some hwk))
    have hk7 : wk < 7 := by omega
    have hT : headerT y ((n : Int) + 1) d h mi s z = weekL.getD wk ⟨#[]⟩ ++ (⟨#[44, 32]⟩ : ByteArray) ++ plainP d ++ (⟨#[32]⟩ : ByteArray) ++ monthL.getD n ⟨#[]⟩ ++ (⟨#[32]⟩ : ByteArray) ++ fourP y ++ (⟨#[32]⟩ : ByteArray) ++ clockP h mi s z := by
      unfold headerT
      rw [hwk]
      congr 6
      simp
    rw [hT]
    have hn0 : (0 : Int) ≤ (n : Int) := by omega
    have hn1 : (n : Int) < 12 := by omega
    have hk0 : (0 : Int) ≤ (wk : Int) := by omega
    have hk1 : (wk : Int) < 7 := by omega
    have hwr : IntKind.i64.wrap (n : Int) = (n : Int) := IntWalk.i64_in _ (by omega)
    have hms := month_size n hn
    have hws := week_size wk hk7
    have hfs := fourP_size y
    have hix := fun w => month_index w n hn
    have hiw := fun w => week_index w wk hk7
    have HF := Lib.hid (four_f y)
    have hck := clockP_size h mi s z
    have HCK : Hid (moment_clock.f y ((n : Int) + 1) d h mi s z = some (clockP h mi s z)) := Lib.hid (if_pos ⟨b7, b8⟩)
    have HPL := Lib.hid (plain_f d)
    have hps := plainP_size d
    generalize monthL.getD n ⟨#[]⟩ = mn at *
    generalize weekL.getD wk ⟨#[]⟩ = wn at *
    generalize fourP y = fy at *
    generalize clockP h mi s z = ck at *
    generalize plainP d = pd at *
    have HL := Lib.hid (laid_below hL (below_alloc (Below.refl _ w) (.cells #[.int .i64 y, .int .i64 ((n : Int) + 1), .int .i64 d, .int .i64 h, .int .i64 mi, .int .i64 s, .int .i64 z] 23)))
    have HL0 := Lib.hid hL
    clear hL hT hwk hwr0 hp hr HR0 hd hv a1 a2 a3 a4 a5 a6 b1 b2 b3 b4 b5 b6 b7 b8
    rcases hps with h1 | h1
    · skip
      go_enter Tryd.func30, Tryd.ntmps30
      go_wp2_with fail
      refine (moment_refused.calls _ _ _ _ _ _ _ 0 _ HR.out HL.out).mono ?_
      rintro e1 w1 ⟨rfl, hb1⟩
      have HB := Lib.hid (below_step (below_alloc (Below.refl _ w) _) hb1)
      have hbx := (hb1.block w.heap.size (by simp)).trans (heap_alloc_new w _)
      obtain ⟨⟨c0, c1, c2, c3, c4, c5, c6⟩, _⟩ := cells7 hbx
      clear hb1 hbx HL
      have HL := HL0
      go_upto_region 4 with fail
      go_region_held3 (fun w' => w'.cell? ⟨w.heap.size, 0, none⟩ = some (.int .i64 y) ∧ w'.cell? ⟨w.heap.size, 1, none⟩ = some (.int .i64 ((n : Int) + 1)) ∧ w'.cell? ⟨w.heap.size, 2, none⟩ = some (.int .i64 d) ∧ w'.cell? ⟨w.heap.size, 3, none⟩ = some (.int .i64 h) ∧ w'.cell? ⟨w.heap.size, 4, none⟩ = some (.int .i64 mi) ∧ w'.cell? ⟨w.heap.size, 5, none⟩ = some (.int .i64 s) ∧ w'.cell? ⟨w.heap.size, 6, none⟩ = some (.int .i64 z)) (go_keep) ((first | (go_at_call 65; (with_reducible refine (weekdays_calls _).mono ?_); rintro e1 u1 ⟨rfl, hb⟩; have n0_ := Lib.hid (below_step (by repeat (first | (with_reducible exact HB.out) | (with_reducible apply below_drew) | (with_reducible apply pw_below_drewN) | exact HB.out)) hb); clear HB; have HB := n0_; clear n0_; have k0 := pw_cell_below hb (a := ⟨w.heap.size, 0, none⟩) (v := .int .i64 y) (by first | assumption | go_simp); have k1 := pw_cell_below hb (a := ⟨w.heap.size, 1, none⟩) (v := .int .i64 ((n : Int) + 1)) (by first | assumption | go_simp); have k2 := pw_cell_below hb (a := ⟨w.heap.size, 2, none⟩) (v := .int .i64 d) (by first | assumption | go_simp); have k3 := pw_cell_below hb (a := ⟨w.heap.size, 3, none⟩) (v := .int .i64 h) (by first | assumption | go_simp); have k4 := pw_cell_below hb (a := ⟨w.heap.size, 4, none⟩) (v := .int .i64 mi) (by first | assumption | go_simp); have k5 := pw_cell_below hb (a := ⟨w.heap.size, 5, none⟩) (v := .int .i64 s) (by first | assumption | go_simp); have k6 := pw_cell_below hb (a := ⟨w.heap.size, 6, none⟩) (v := .int .i64 z) (by first | assumption | go_simp); clear hb) | (go_at_call 21; (with_reducible refine (moment_Weekday.calls 30000 y ((n : Int) + 1) d h mi s z (wk : Int) _ HW.out (laid_below HL.out (by repeat (first | (with_reducible exact HB.out) | (with_reducible apply below_drew) | (with_reducible apply pw_below_drewN) | exact HB.out)))).mono ?_); rintro e1 u2 ⟨rfl, hb⟩; have n0_ := Lib.hid (below_step (by repeat (first | (with_reducible exact HB.out) | (with_reducible apply below_drew) | (with_reducible apply pw_below_drewN) | exact HB.out)) hb); clear HB; have HB := n0_; clear n0_; have k0 := pw_cell_below hb (a := ⟨w.heap.size, 0, none⟩) (v := .int .i64 y) (by first | assumption | go_simp); have k1 := pw_cell_below hb (a := ⟨w.heap.size, 1, none⟩) (v := .int .i64 ((n : Int) + 1)) (by first | assumption | go_simp); have k2 := pw_cell_below hb (a := ⟨w.heap.size, 2, none⟩) (v := .int .i64 d) (by first | assumption | go_simp); have k3 := pw_cell_below hb (a := ⟨w.heap.size, 3, none⟩) (v := .int .i64 h) (by first | assumption | go_simp); have k4 := pw_cell_below hb (a := ⟨w.heap.size, 4, none⟩) (v := .int .i64 mi) (by first | assumption | go_simp); have k5 := pw_cell_below hb (a := ⟨w.heap.size, 5, none⟩) (v := .int .i64 s) (by first | assumption | go_simp); have k6 := pw_cell_below hb (a := ⟨w.heap.size, 6, none⟩) (v := .int .i64 z) (by first | assumption | go_simp); clear hb) | (go_at_call 49; (with_reducible refine (moment_plain.calls d pd _ HPL.out).mono ?_); rintro e1 u3 ⟨rfl, hb⟩; have n0_ := Lib.hid (below_step (by repeat (first | (with_reducible exact HB.out) | (with_reducible apply below_drew) | (with_reducible apply pw_below_drewN) | exact HB.out)) hb); clear HB; have HB := n0_; clear n0_; have k0 := pw_cell_below hb (a := ⟨w.heap.size, 0, none⟩) (v := .int .i64 y) (by first | assumption | go_simp); have k1 := pw_cell_below hb (a := ⟨w.heap.size, 1, none⟩) (v := .int .i64 ((n : Int) + 1)) (by first | assumption | go_simp); have k2 := pw_cell_below hb (a := ⟨w.heap.size, 2, none⟩) (v := .int .i64 d) (by first | assumption | go_simp); have k3 := pw_cell_below hb (a := ⟨w.heap.size, 3, none⟩) (v := .int .i64 h) (by first | assumption | go_simp); have k4 := pw_cell_below hb (a := ⟨w.heap.size, 4, none⟩) (v := .int .i64 mi) (by first | assumption | go_simp); have k5 := pw_cell_below hb (a := ⟨w.heap.size, 5, none⟩) (v := .int .i64 s) (by first | assumption | go_simp); have k6 := pw_cell_below hb (a := ⟨w.heap.size, 6, none⟩) (v := .int .i64 z) (by first | assumption | go_simp); clear hb) | (go_at_call 66; (with_reducible refine (months_calls _).mono ?_); rintro e1 u4 ⟨rfl, hb⟩; have n0_ := Lib.hid (below_step (by repeat (first | (with_reducible exact HB.out) | (with_reducible apply below_drew) | (with_reducible apply pw_below_drewN) | exact HB.out)) hb); clear HB; have HB := n0_; clear n0_; have k0 := pw_cell_below hb (a := ⟨w.heap.size, 0, none⟩) (v := .int .i64 y) (by first | assumption | go_simp); have k1 := pw_cell_below hb (a := ⟨w.heap.size, 1, none⟩) (v := .int .i64 ((n : Int) + 1)) (by first | assumption | go_simp); have k2 := pw_cell_below hb (a := ⟨w.heap.size, 2, none⟩) (v := .int .i64 d) (by first | assumption | go_simp); have k3 := pw_cell_below hb (a := ⟨w.heap.size, 3, none⟩) (v := .int .i64 h) (by first | assumption | go_simp); have k4 := pw_cell_below hb (a := ⟨w.heap.size, 4, none⟩) (v := .int .i64 mi) (by first | assumption | go_simp); have k5 := pw_cell_below hb (a := ⟨w.heap.size, 5, none⟩) (v := .int .i64 s) (by first | assumption | go_simp); have k6 := pw_cell_below hb (a := ⟨w.heap.size, 6, none⟩) (v := .int .i64 z) (by first | assumption | go_simp); clear hb) | (go_at_call 67; (with_reducible refine (moment_four.calls y fy _ HF.out).mono ?_); rintro e1 u5 ⟨rfl, hb⟩; have n0_ := Lib.hid (below_step (by repeat (first | (with_reducible exact HB.out) | (with_reducible apply below_drew) | (with_reducible apply pw_below_drewN) | exact HB.out)) hb); clear HB; have HB := n0_; clear n0_; have k0 := pw_cell_below hb (a := ⟨w.heap.size, 0, none⟩) (v := .int .i64 y) (by first | assumption | go_simp); have k1 := pw_cell_below hb (a := ⟨w.heap.size, 1, none⟩) (v := .int .i64 ((n : Int) + 1)) (by first | assumption | go_simp); have k2 := pw_cell_below hb (a := ⟨w.heap.size, 2, none⟩) (v := .int .i64 d) (by first | assumption | go_simp); have k3 := pw_cell_below hb (a := ⟨w.heap.size, 3, none⟩) (v := .int .i64 h) (by first | assumption | go_simp); have k4 := pw_cell_below hb (a := ⟨w.heap.size, 4, none⟩) (v := .int .i64 mi) (by first | assumption | go_simp); have k5 := pw_cell_below hb (a := ⟨w.heap.size, 5, none⟩) (v := .int .i64 s) (by first | assumption | go_simp); have k6 := pw_cell_below hb (a := ⟨w.heap.size, 6, none⟩) (v := .int .i64 z) (by first | assumption | go_simp); clear hb) | (go_at_call 64; (with_reducible refine (moment_clock.calls y ((n : Int) + 1) d h mi s z ck _ HCK.out).mono ?_); rintro e1 u6 ⟨rfl, hb⟩; have n0_ := Lib.hid (below_step (by repeat (first | (with_reducible exact HB.out) | (with_reducible apply below_drew) | (with_reducible apply pw_below_drewN) | exact HB.out)) hb); clear HB; have HB := n0_; clear n0_; have k0 := pw_cell_below hb (a := ⟨w.heap.size, 0, none⟩) (v := .int .i64 y) (by first | assumption | go_simp); have k1 := pw_cell_below hb (a := ⟨w.heap.size, 1, none⟩) (v := .int .i64 ((n : Int) + 1)) (by first | assumption | go_simp); have k2 := pw_cell_below hb (a := ⟨w.heap.size, 2, none⟩) (v := .int .i64 d) (by first | assumption | go_simp); have k3 := pw_cell_below hb (a := ⟨w.heap.size, 3, none⟩) (v := .int .i64 h) (by first | assumption | go_simp); have k4 := pw_cell_below hb (a := ⟨w.heap.size, 4, none⟩) (v := .int .i64 mi) (by first | assumption | go_simp); have k5 := pw_cell_below hb (a := ⟨w.heap.size, 5, none⟩) (v := .int .i64 s) (by first | assumption | go_simp); have k6 := pw_cell_below hb (a := ⟨w.heap.size, 6, none⟩) (v := .int .i64 z) (by first | assumption | go_simp); clear hb)))
      all_goals go_wp2
      all_goals go_ret2
      all_goals exact ⟨rfl, (by repeat (first | (with_reducible exact HB.out) | (with_reducible apply below_drew) | (with_reducible apply pw_below_drewN) | exact HB.out))⟩
    · skip
      go_enter Tryd.func30, Tryd.ntmps30
      go_wp2_with fail
      refine (moment_refused.calls _ _ _ _ _ _ _ 0 _ HR.out HL.out).mono ?_
      rintro e1 w1 ⟨rfl, hb1⟩
      have HB := Lib.hid (below_step (below_alloc (Below.refl _ w) _) hb1)
      have hbx := (hb1.block w.heap.size (by simp)).trans (heap_alloc_new w _)
      obtain ⟨⟨c0, c1, c2, c3, c4, c5, c6⟩, _⟩ := cells7 hbx
      clear hb1 hbx HL
      have HL := HL0
      go_upto_region 4 with fail
      go_region_held3 (fun w' => w'.cell? ⟨w.heap.size, 0, none⟩ = some (.int .i64 y) ∧ w'.cell? ⟨w.heap.size, 1, none⟩ = some (.int .i64 ((n : Int) + 1)) ∧ w'.cell? ⟨w.heap.size, 2, none⟩ = some (.int .i64 d) ∧ w'.cell? ⟨w.heap.size, 3, none⟩ = some (.int .i64 h) ∧ w'.cell? ⟨w.heap.size, 4, none⟩ = some (.int .i64 mi) ∧ w'.cell? ⟨w.heap.size, 5, none⟩ = some (.int .i64 s) ∧ w'.cell? ⟨w.heap.size, 6, none⟩ = some (.int .i64 z)) (go_keep) ((first | (go_at_call 65; (with_reducible refine (weekdays_calls _).mono ?_); rintro e1 u1 ⟨rfl, hb⟩; have n0_ := Lib.hid (below_step (by repeat (first | (with_reducible exact HB.out) | (with_reducible apply below_drew) | (with_reducible apply pw_below_drewN) | exact HB.out)) hb); clear HB; have HB := n0_; clear n0_; have k0 := pw_cell_below hb (a := ⟨w.heap.size, 0, none⟩) (v := .int .i64 y) (by first | assumption | go_simp); have k1 := pw_cell_below hb (a := ⟨w.heap.size, 1, none⟩) (v := .int .i64 ((n : Int) + 1)) (by first | assumption | go_simp); have k2 := pw_cell_below hb (a := ⟨w.heap.size, 2, none⟩) (v := .int .i64 d) (by first | assumption | go_simp); have k3 := pw_cell_below hb (a := ⟨w.heap.size, 3, none⟩) (v := .int .i64 h) (by first | assumption | go_simp); have k4 := pw_cell_below hb (a := ⟨w.heap.size, 4, none⟩) (v := .int .i64 mi) (by first | assumption | go_simp); have k5 := pw_cell_below hb (a := ⟨w.heap.size, 5, none⟩) (v := .int .i64 s) (by first | assumption | go_simp); have k6 := pw_cell_below hb (a := ⟨w.heap.size, 6, none⟩) (v := .int .i64 z) (by first | assumption | go_simp); clear hb) | (go_at_call 21; (with_reducible refine (moment_Weekday.calls 30000 y ((n : Int) + 1) d h mi s z (wk : Int) _ HW.out (laid_below HL.out (by repeat (first | (with_reducible exact HB.out) | (with_reducible apply below_drew) | (with_reducible apply pw_below_drewN) | exact HB.out)))).mono ?_); rintro e1 u2 ⟨rfl, hb⟩; have n0_ := Lib.hid (below_step (by repeat (first | (with_reducible exact HB.out) | (with_reducible apply below_drew) | (with_reducible apply pw_below_drewN) | exact HB.out)) hb); clear HB; have HB := n0_; clear n0_; have k0 := pw_cell_below hb (a := ⟨w.heap.size, 0, none⟩) (v := .int .i64 y) (by first | assumption | go_simp); have k1 := pw_cell_below hb (a := ⟨w.heap.size, 1, none⟩) (v := .int .i64 ((n : Int) + 1)) (by first | assumption | go_simp); have k2 := pw_cell_below hb (a := ⟨w.heap.size, 2, none⟩) (v := .int .i64 d) (by first | assumption | go_simp); have k3 := pw_cell_below hb (a := ⟨w.heap.size, 3, none⟩) (v := .int .i64 h) (by first | assumption | go_simp); have k4 := pw_cell_below hb (a := ⟨w.heap.size, 4, none⟩) (v := .int .i64 mi) (by first | assumption | go_simp); have k5 := pw_cell_below hb (a := ⟨w.heap.size, 5, none⟩) (v := .int .i64 s) (by first | assumption | go_simp); have k6 := pw_cell_below hb (a := ⟨w.heap.size, 6, none⟩) (v := .int .i64 z) (by first | assumption | go_simp); clear hb) | (go_at_call 49; (with_reducible refine (moment_plain.calls d pd _ HPL.out).mono ?_); rintro e1 u3 ⟨rfl, hb⟩; have n0_ := Lib.hid (below_step (by repeat (first | (with_reducible exact HB.out) | (with_reducible apply below_drew) | (with_reducible apply pw_below_drewN) | exact HB.out)) hb); clear HB; have HB := n0_; clear n0_; have k0 := pw_cell_below hb (a := ⟨w.heap.size, 0, none⟩) (v := .int .i64 y) (by first | assumption | go_simp); have k1 := pw_cell_below hb (a := ⟨w.heap.size, 1, none⟩) (v := .int .i64 ((n : Int) + 1)) (by first | assumption | go_simp); have k2 := pw_cell_below hb (a := ⟨w.heap.size, 2, none⟩) (v := .int .i64 d) (by first | assumption | go_simp); have k3 := pw_cell_below hb (a := ⟨w.heap.size, 3, none⟩) (v := .int .i64 h) (by first | assumption | go_simp); have k4 := pw_cell_below hb (a := ⟨w.heap.size, 4, none⟩) (v := .int .i64 mi) (by first | assumption | go_simp); have k5 := pw_cell_below hb (a := ⟨w.heap.size, 5, none⟩) (v := .int .i64 s) (by first | assumption | go_simp); have k6 := pw_cell_below hb (a := ⟨w.heap.size, 6, none⟩) (v := .int .i64 z) (by first | assumption | go_simp); clear hb) | (go_at_call 66; (with_reducible refine (months_calls _).mono ?_); rintro e1 u4 ⟨rfl, hb⟩; have n0_ := Lib.hid (below_step (by repeat (first | (with_reducible exact HB.out) | (with_reducible apply below_drew) | (with_reducible apply pw_below_drewN) | exact HB.out)) hb); clear HB; have HB := n0_; clear n0_; have k0 := pw_cell_below hb (a := ⟨w.heap.size, 0, none⟩) (v := .int .i64 y) (by first | assumption | go_simp); have k1 := pw_cell_below hb (a := ⟨w.heap.size, 1, none⟩) (v := .int .i64 ((n : Int) + 1)) (by first | assumption | go_simp); have k2 := pw_cell_below hb (a := ⟨w.heap.size, 2, none⟩) (v := .int .i64 d) (by first | assumption | go_simp); have k3 := pw_cell_below hb (a := ⟨w.heap.size, 3, none⟩) (v := .int .i64 h) (by first | assumption | go_simp); have k4 := pw_cell_below hb (a := ⟨w.heap.size, 4, none⟩) (v := .int .i64 mi) (by first | assumption | go_simp); have k5 := pw_cell_below hb (a := ⟨w.heap.size, 5, none⟩) (v := .int .i64 s) (by first | assumption | go_simp); have k6 := pw_cell_below hb (a := ⟨w.heap.size, 6, none⟩) (v := .int .i64 z) (by first | assumption | go_simp); clear hb) | (go_at_call 67; (with_reducible refine (moment_four.calls y fy _ HF.out).mono ?_); rintro e1 u5 ⟨rfl, hb⟩; have n0_ := Lib.hid (below_step (by repeat (first | (with_reducible exact HB.out) | (with_reducible apply below_drew) | (with_reducible apply pw_below_drewN) | exact HB.out)) hb); clear HB; have HB := n0_; clear n0_; have k0 := pw_cell_below hb (a := ⟨w.heap.size, 0, none⟩) (v := .int .i64 y) (by first | assumption | go_simp); have k1 := pw_cell_below hb (a := ⟨w.heap.size, 1, none⟩) (v := .int .i64 ((n : Int) + 1)) (by first | assumption | go_simp); have k2 := pw_cell_below hb (a := ⟨w.heap.size, 2, none⟩) (v := .int .i64 d) (by first | assumption | go_simp); have k3 := pw_cell_below hb (a := ⟨w.heap.size, 3, none⟩) (v := .int .i64 h) (by first | assumption | go_simp); have k4 := pw_cell_below hb (a := ⟨w.heap.size, 4, none⟩) (v := .int .i64 mi) (by first | assumption | go_simp); have k5 := pw_cell_below hb (a := ⟨w.heap.size, 5, none⟩) (v := .int .i64 s) (by first | assumption | go_simp); have k6 := pw_cell_below hb (a := ⟨w.heap.size, 6, none⟩) (v := .int .i64 z) (by first | assumption | go_simp); clear hb) | (go_at_call 64; (with_reducible refine (moment_clock.calls y ((n : Int) + 1) d h mi s z ck _ HCK.out).mono ?_); rintro e1 u6 ⟨rfl, hb⟩; have n0_ := Lib.hid (below_step (by repeat (first | (with_reducible exact HB.out) | (with_reducible apply below_drew) | (with_reducible apply pw_below_drewN) | exact HB.out)) hb); clear HB; have HB := n0_; clear n0_; have k0 := pw_cell_below hb (a := ⟨w.heap.size, 0, none⟩) (v := .int .i64 y) (by first | assumption | go_simp); have k1 := pw_cell_below hb (a := ⟨w.heap.size, 1, none⟩) (v := .int .i64 ((n : Int) + 1)) (by first | assumption | go_simp); have k2 := pw_cell_below hb (a := ⟨w.heap.size, 2, none⟩) (v := .int .i64 d) (by first | assumption | go_simp); have k3 := pw_cell_below hb (a := ⟨w.heap.size, 3, none⟩) (v := .int .i64 h) (by first | assumption | go_simp); have k4 := pw_cell_below hb (a := ⟨w.heap.size, 4, none⟩) (v := .int .i64 mi) (by first | assumption | go_simp); have k5 := pw_cell_below hb (a := ⟨w.heap.size, 5, none⟩) (v := .int .i64 s) (by first | assumption | go_simp); have k6 := pw_cell_below hb (a := ⟨w.heap.size, 6, none⟩) (v := .int .i64 z) (by first | assumption | go_simp); clear hb)))
      all_goals go_wp2
      all_goals go_ret2
      all_goals exact ⟨rfl, (by repeat (first | (with_reducible exact HB.out) | (with_reducible apply below_drew) | (with_reducible apply pw_below_drewN) | exact HB.out))⟩
  · have hp : printHeaderP y m d h mi s z = (⟨#[]⟩, refuseP y m d h mi s z) := if_neg hr
    rw [hp]
    have HR := Lib.hid HR0
    generalize refuseP y m d h mi s z = q at *
    have hq : (q != 0) = true := by rw [bne_iff_ne]; exact hr
    have HL := Lib.hid (laid_below hL (below_alloc (Below.refl _ w) (.cells #[.int .i64 y, .int .i64 m, .int .i64 d, .int .i64 h, .int .i64 mi, .int .i64 s, .int .i64 z] 23)))
    clear hL hp hr HR0
    go_enter Tryd.func30, Tryd.ntmps30
    go_wp2_with fail
    refine (moment_refused.calls _ _ _ _ _ _ _ q _ HR.out HL.out).mono ?_
    rintro e1 w1 ⟨rfl, hb1⟩
    have HB1 := Lib.hid (below_step (below_alloc (Below.refl _ w) _) hb1)
    clear hb1
    go_wp2
    go_ret2
    exact ⟨rfl, HB1.out⟩
def moment_PrintHeader.f (y m d h mi s z : Int) : Option (ByteArray × Int) := some (printHeaderP y m d h mi s z)
theorem moment_PrintHeader.calls (a0_0 a0_1 a0_2 a0_3 a0_4 a0_5 a0_6 : Int) (r1 : ByteArray) (r2 : Int) (w : World) (h : moment_PrintHeader.f a0_0 a0_1 a0_2 a0_3 a0_4 a0_5 a0_6 = some (r1, r2)) (hL : Laid w) :
    Calls Tryd.prog 30 #[.agg #[.int .i64 a0_0, .int .i64 a0_1, .int .i64 a0_2, .int .i64 a0_3, .int .i64 a0_4, .int .i64 a0_5, .int .i64 a0_6]] w fun e w' => e = .returned (.tuple #[.string r1, .int .i64 r2]) ∧ Below w.heap.size w w' := by
  have h := Option.some.inj h
  have h2 := printHeader_calls a0_0 a0_1 a0_2 a0_3 a0_4 a0_5 a0_6 w hL
  rw [h] at h2
  exact h2
end Go.Proofs.YtjlchnmpebdggaaDoor.Mo
end
section
namespace Go.Proofs.YtjlchnmpebdggaaDoor.Mo
open Go.RowKit Go.Proofs.YtjlchnmpebdggaaDoorW.PrintWords
def isLet (c : UInt8) : Bool := decide (65 ≤ c.toNat) && decide (c.toNat ≤ 90) || decide (97 ≤ c.toNat) && decide (c.toNat ≤ 122)
def Cur (c t : Nat) (s : ByteArray) (i : Nat) (k : Int) (x : ByteArray) (w : World) : Prop := w.heap[c]? = some (.cells #[.string s, .int .i64 i, .int .i64 k, .string x] t (0, 0))
structure Turned (c : Nat) (w w' : World) : Prop where
  size : w.heap.size ≤ w'.heap.size
  other : ∀ i, i < w.heap.size → i ≠ c → w'.heap[i]? = w.heap[i]?
  below : ∀ (B : Nat) (w0 : World), Below B w0 w → B ≤ c → B ≤ w.heap.size → Below B w0 w'
theorem Turned.refl (c : Nat) (w : World) : Turned c w w := ⟨Nat.le_refl _, fun _ _ _ => rfl, fun _ _ h _ _ => h⟩
theorem Turned.trans {c : Nat} {w w1 w2 : World} (h : Turned c w w1) (k : Turned c w1 w2) : Turned c w w2 :=
  ⟨Nat.le_trans h.size k.size, fun i hi hn => (k.other i (Nat.lt_of_lt_of_le hi h.size) hn).trans (h.other i hi hn), fun B w0 hb hc hs => k.below B w0 (h.below B w0 hb hc hs) hc (Nat.le_trans hs h.size)⟩
theorem Turned.drewN {c : Nat} {w w1 : World} (h : Turned c w w1) (n : Nat) : Turned c w (w1.drewN n) := ⟨h.size, h.other, fun B w0 hb hc hs => pw_below_drewN (h.below B w0 hb hc hs) n⟩
theorem Turned.drew {c : Nat} {w w1 : World} (h : Turned c w w1) : Turned c w w1.drew := ⟨h.size, h.other, fun B w0 hb hc hs => below_drew (h.below B w0 hb hc hs)⟩
theorem Turned.set {c : Nat} {w w1 : World} (h : Turned c w w1) (j : Nat) (v : Value) : Turned c w (w1.setCell ⟨c, j, none⟩ v) :=
  ⟨by simpa [World.setCell] using h.size, fun i hi hn => (heap_setCell_other _ _ _ _ hn).trans (h.other i hi hn), fun B w0 hb hc hs => (h.below B w0 hb hc hs).setCell (p := ⟨c, j, none⟩) hc v⟩
theorem Turned.alloc {c : Nat} {w w1 : World} (h : Turned c w w1) (o : Obj) : Turned c w (w1.alloc o) :=
  ⟨by have := h.size; simp; omega, fun i hi hn => (Below.heap_alloc _ _ _ (Nat.lt_of_lt_of_le hi h.size)).trans (h.other i hi hn), fun B w0 hb hc hs => (h.below B w0 hb hc hs).alloc (Nat.le_trans hs h.size) o⟩
theorem Turned.made {c : Nat} {w w1 w2 : World} (h : Turned c w w1) (k : Below w1.heap.size w1 w2) : Turned c w w2 :=
  ⟨Nat.le_trans h.size k.size, fun i hi hn => (k.block i (Nat.lt_of_lt_of_le hi h.size)).trans (h.other i hi hn), fun B w0 hb hc hs => (h.below B w0 hb hc hs).trans (k.mono (Nat.le_trans hs h.size))⟩
def runP (p : UInt8 → Bool) (l : List UInt8) (i : Nat) : Nat := i + ((l.drop i).takeWhile p).length
theorem runP_le (p : UInt8 → Bool) (l : List UInt8) (i : Nat) (h : i ≤ l.length) : runP p l i ≤ l.length ∧ i ≤ runP p l i := by
  unfold runP
  have := (List.takeWhile_prefix (l := l.drop i) p).length_le
  rw [List.length_drop] at this
  omega
theorem runP_end (p : UInt8 → Bool) (l : List UInt8) (i : Nat) (h : l.length ≤ i) : runP p l i = i := by
  unfold runP; rw [List.drop_of_length_le h]; rfl
theorem runP_yes (p : UInt8 → Bool) (l : List UInt8) (i : Nat) (h : i < l.length) (hp : p l[i] = true) : runP p l i = runP p l (i + 1) := by
  unfold runP; rw [List.drop_eq_getElem_cons h, List.takeWhile_cons, if_pos hp, List.length_cons]; omega
theorem runP_no (p : UInt8 → Bool) (l : List UInt8) (i : Nat) (h : i < l.length) (hp : p l[i] = false) : runP p l i = i := by
  unfold runP; rw [List.drop_eq_getElem_cons h, List.takeWhile_cons, if_neg (by simp [hp])]; rfl
structure Asks (fn : Nat) (p : UInt8 → Bool) : Prop where
  entry : ∀ (args : Array Value) (w : World), Sem.run Tryd.prog (callFunc fn args) w = .ok (.enter fn args) w
  tells : ∀ (b : UInt8) (w : World), Calls Tryd.prog fn #[.int .u8 b.toNat] w fun e w' => e = .returned (.bool (p b)) ∧ Drawn0 w w'
theorem cast_le (m : Nat) (b : UInt8) : ((b.toNat : Int) ≥ (m : Int)) = (m ≤ b.toNat) := propext ⟨fun h => by omega, fun h => by omega⟩
theorem cast_le2 (m : Nat) (b : UInt8) : decide ((b.toNat : Int) ≤ (m : Int)) = decide (b.toNat ≤ m) := decide_eq_decide.2 ⟨fun h => by omega, fun h => by omega⟩
theorem cast_le3 (m : Nat) (b : UInt8) : ((b.toNat : Int) ≤ (m : Int)) = (b.toNat ≤ m) := propext ⟨fun h => by omega, fun h => by omega⟩
theorem asks_letter : Asks 89 isLet where
  entry := fun args w => by kernel_rfl
  tells := fun b w => moment_isLetter.calls _ _ w (by
    unfold moment_isLetter.f isLet
    have e1 : ((b.toNat : Int) ≥ 65) = (65 ≤ b.toNat) := cast_le 65 b
    have e2 : ((b.toNat : Int) ≥ 97) = (97 ≤ b.toNat) := cast_le 97 b
    have e3 : decide ((b.toNat : Int) ≤ 122) = decide (b.toNat ≤ 122) := cast_le2 122 b
    have e4 : ((b.toNat : Int) ≤ 90) = (b.toNat ≤ 90) := cast_le3 90 b
    simp only [e1, e2, e3, e4]
    by_cases h1 : 65 ≤ b.toNat <;> by_cases h2 : b.toNat ≤ 90 <;> by_cases h3 : 97 ≤ b.toNat <;> simp [h1, h2, h3])
theorem asks_digit : Asks 91 isDig where
  entry := fun args w => by kernel_rfl
  tells := fun b w => moment_isDigit.calls _ _ w (by
    unfold moment_isDigit.f isDig
    have e1 : ((b.toNat : Int) ≥ 48) = (48 ≤ b.toNat) := cast_le 48 b
    have e3 : decide ((b.toNat : Int) ≤ 57) = decide (b.toNat ≤ 57) := cast_le2 57 b
    simp only [e1, e3]
    by_cases h1 : 48 ≤ b.toNat <;> simp [h1])
set_option maxHeartbeats 1000000 in
theorem run_calls (fn : Nat) (p : UInt8 → Bool) (hA : Asks fn p) (c t : Nat) (s : ByteArray) (i : Nat) (k : Int) (x : ByteArray) (w : World) (hs : s.size ≤ 140737488351232) (hi : i ≤ s.size) (hc : Cur c t s i k x w) :
    Calls Tryd.prog 90 #[.pointer (some ⟨c, 0, none⟩), .func (.func fn) #[] #[]] w fun e w' => e = .returned (.tuple #[]) ∧ Cur c t s (runP p s.data.toList i) k x w' ∧ Turned c w w' := by
  have HC := Lib.hid hc
  clear hc
  have hl := toList_len s
  go_enter Tryd.func90, Tryd.ntmps90
  go_wp2_with fail
  go_loopg [] (s.size - i) (fun n wr => ∃ j, n = s.size - j ∧ j ≤ s.size ∧ Cur c t s j k x wr ∧ runP p s.data.toList j = runP p s.data.toList i ∧ Turned c w wr)
  case atStart => exact ⟨i, rfl, hi, HC.out, rfl, Turned.refl _ _⟩
  case round =>
    obtain ⟨j, hn, hj, hcur, hr, hT⟩ := hrel
    have hcell : wr.heap[c]? = some (.cells #[.string s, .int .i64 j, .int .i64 k, .string x] t (0, 0)) := hcur
    have c0 : wr.cell? ⟨c, 0, none⟩ = some (.string s) := cell_of_row wr c 0 _ _ _ hcell
    have c1 : wr.cell? ⟨c, 1, none⟩ = some (.int .i64 (j : Nat)) := cell_of_row wr c 1 _ _ _ hcell
    have z1 : wr.frozen? ⟨c, 1, none⟩ = false := frozen_of_row wr c 1 _ _ hcell
    have HCUR := Lib.hid hcell
    have HR := Lib.hid hr
    have HN := Lib.hid hn
    have HT := Lib.hid hT
    clear hcell hcur hr hn hT
    by_cases hlt : j < s.size
    · have hlen : j < s.data.toList.length := by omega
      have hent := hA.entry
      have hbj : s[j]'hlt = s.data.toList[j]'hlen := rfl
      have hx0 : (0 : Int) ≤ (j : Int) := by omega
      have hx1 : (j : Int) < (s.size : Int) := by omega
      have htell := hA.tells (s.data.toList[j]'hlen)
      rw [← hbj] at htell
      cases hp : p (s.data.toList[j]'hlen) with
      | true =>
        rw [hbj, hp, ← hbj] at htell
        have HTELL := Lib.hid htell
        have HP := Lib.hid hp
        clear hp htell hbj
        go_wp2_with fail
        go_quiet (exact Calls.quiet_of ((HTELL.out _).mono (fun e w' h => ⟨h.1, h.2.out⟩)))
        go_wp2
        go_roundg (s.size - (j + 1))
        case measure => have := HN.out; omega
        case rel => exact ⟨j + 1, rfl, by omega, by
            have h := blk_put (cs' := #[.string s, .int .i64 ((j : Int) + 1), .int .i64 k, .string x]) (blk_drewN HCUR.out nq) 1 (.int .i64 ((j : Int) + 1)) rfl
            exact h, by rw [← HR.out, runP_yes _ _ _ hlen HP.out], (HT.out.drewN nq).set 1 _⟩
      | false =>
        rw [hbj, hp, ← hbj] at htell
        have HTELL := Lib.hid htell
        have HP := Lib.hid hp
        clear hp htell hbj
        go_wp2_with fail
        go_quiet (exact Calls.quiet_of ((HTELL.out _).mono (fun e w' h => ⟨h.1, h.2.out⟩)))
        go_wp2
        go_end0
        refine ⟨rfl, ?_, HT.out.drewN nq⟩
        rw [← HR.out, runP_no _ _ _ hlen HP.out]
        exact HCUR.out
    · have hlt' : s.size ≤ j := by omega
      have hg : decide ((j : Int) < (s.size : Int)) = false := decide_eq_false (by omega)
      have hg2 : decide (j < s.size) = false := decide_eq_false (by omega)
      go_wp2_with fail
      go_quiet (fail)
      go_wp2
      go_end0
      refine ⟨rfl, ?_, HT.out.drewN nq⟩
      rw [← HR.out, runP_end _ _ _ (by omega)]
      exact HCUR.out
end Go.Proofs.YtjlchnmpebdggaaDoor.Mo
end
