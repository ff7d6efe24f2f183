import Derived.Test.YtjlchnmpebdggaaDoorDys2
import Derived.Test.YtjlchnmpebdggaaDoorDys3
import Derived.Test.YtjlchnmpebdggaaDoorDys8
section
-- PRINTED by a driver of print.py
namespace Go.Proofs.YtjlchnmpebdggaaDoor.Mo
open Go.RowKit Go.Proofs.YtjlchnmpebdggaaDoorW.PrintWords Go.Proofs.YtjlchnmpebdggaaDoorW.PrintLast Go.Proofs.YtjlchnmpebdggaaDoorW.PrintMore
attribute [local go_sem] max2_int min2_int max_two min_two max_three min_three max_four min_four   -- for this text's walks alone
set_option linter.unusedVariables false
set_option linter.unusedSimpArgs false
def moment_PrintDay.f (a0_0 : Int) (a0_1 : Int) (a0_2 : Int) (a0_3 : Int) (a0_4 : Int) (a0_5 : Int) (a0_6 : Int) : Option (ByteArray × Int) := (moment_isDay.f a0_0 a0_1 a0_2 a0_3 a0_4 a0_5 a0_6).bind fun t469 => (if t469 = true then ((moment_plain.f a0_2).bind fun t470 => ((moment_dashed.f a0_0 a0_1 a0_2 a0_3 a0_4 a0_5 a0_6).bind fun t471 => (if t470.size + t471.size ≤ 9223372036854775807 then (some (t470 ++ t471, 0)) else (none)))) else (some ((⟨#[]⟩ : ByteArray), 21)))
def moment_PrintDay.T3 : Bool × List (List Nat × List Nat) := (true, [([], []), ([0], [0]), ([1], [1]), ([], []), ([3, 2], [3]), ([2, 4], [2, 4]), ([5, 4, 0, 1, 2, 3, 4, 5], [5]), ([6, 0, 1, 2, 3, 4, 5, 6], [])])
def moment_PrintDay.B3 : List Nat := [0, 1, 3, 0, 15, 31, 63, 127]
theorem moment_PrintDay.tab3 : rtab .any (opsOf Tryd.f24 3) = moment_PrintDay.T3 := by kernel_rfl
theorem moment_PrintDay.bits3 : waitsOk moment_PrintDay.T3.2 moment_PrintDay.B3 = true := by kernel_rfl
set_option maxHeartbeats 8000000 in
set_option maxRecDepth 100000 in
theorem moment_PrintDay.calls (a0_0 : Int) (a0_1 : Int) (a0_2 : Int) (a0_3 : Int) (a0_4 : Int) (a0_5 : Int) (a0_6 : Int) (r1 : ByteArray) (r2 : Int) (w : World) (h : moment_PrintDay.f a0_0 a0_1 a0_2 a0_3 a0_4 a0_5 a0_6 = some (r1, r2)) (hL_ : Laid w) :
  Calls Tryd.prog 24 #[.agg #[.int .i64 a0_0, .int .i64 a0_1, .int .i64 a0_2, .int .i64 a0_3, .int .i64 a0_4, .int .i64 a0_5, .int .i64 a0_6]] w fun e w' => e = .returned (.tuple #[.string r1, .int .i64 r2]) ∧ Below w.heap.size w w' := by
 have HL_ := Aside0.mk hL_
 clear hL_
 have hu23 := Tryd.underlying23
 have HB := Aside0.mk (Below.refl w.heap.size w)
 have H : ((moment_isDay.f a0_0 a0_1 a0_2 a0_3 a0_4 a0_5 a0_6).bind fun t469 => (if t469 = true then ((moment_plain.f a0_2).bind fun t470 => ((moment_dashed.f a0_0 a0_1 a0_2 a0_3 a0_4 a0_5 a0_6).bind fun t471 => (if t470.size + t471.size ≤ 9223372036854775807 then (some (t470 ++ t471, 0)) else (none)))) else (some ((⟨#[]⟩ : ByteArray), 21)))) = some (r1, r2) := h
 clear h
 replace H := Option.bind_eq_some_iff.mp H
 obtain ⟨t469, A20, H⟩ := H
 replace H : (if t469 = true then ((moment_plain.f a0_2).bind fun t470 => ((moment_dashed.f a0_0 a0_1 a0_2 a0_3 a0_4 a0_5 a0_6).bind fun t471 => (if t470.size + t471.size ≤ 9223372036854775807 then (some (t470 ++ t471, 0)) else (none)))) else (some ((⟨#[]⟩ : ByteArray), 21))) = some (r1, r2) := H
 have A2 := Aside0.mk A20
 clear A20
 by_cases c3 : t469 = true
 ·subst c3
  have H1 : ((moment_plain.f a0_2).bind fun t470 => ((moment_dashed.f a0_0 a0_1 a0_2 a0_3 a0_4 a0_5 a0_6).bind fun t471 => (if t470.size + t471.size ≤ 9223372036854775807 then (some (t470 ++ t471, 0)) else (none)))) = some (r1, r2) := by rw [if_pos rfl] at H; exact H
  clear H
  have H := H1
  clear H1
  replace H := Option.bind_eq_some_iff.mp H
  obtain ⟨t470, A40, H⟩ := H
  replace H : ((moment_dashed.f a0_0 a0_1 a0_2 a0_3 a0_4 a0_5 a0_6).bind fun t471 => (if t470.size + t471.size ≤ 9223372036854775807 then (some (t470 ++ t471, 0)) else (none))) = some (r1, r2) := H
  have A4 := Aside0.mk A40
  clear A40
  replace H := Option.bind_eq_some_iff.mp H
  obtain ⟨t471, A50, H⟩ := H
  replace H : (if t470.size + t471.size ≤ 9223372036854775807 then (some (t470 ++ t471, 0)) else (none)) = some (r1, r2) := H
  have A5 := Aside0.mk A50
  clear A50
  by_cases c6 : t470.size + t471.size ≤ 9223372036854775807
  ·rw [if_pos c6] at H
   have c6b0 := eq_true c6
   have c6b1 : decide (t470.size + t471.size ≤ 9223372036854775807) = true := decide_eq_true c6
   try have c6b2 : (9223372036854775807 < t470.size + t471.size) = False := eq_false (Nat.not_lt.2 c6)
   simp only [Option.some.injEq, Prod.mk.injEq] at H
   obtain ⟨rfl, rfl⟩ := H
   go_enter Tryd.func24, Tryd.ntmps24
   try go_wp2_with (first | ((with_reducible refine gate_dst (N := 1) rfl ?_); refine box_event ?hg (N := 1) ?hd (cs := #[.int .i64 a0_0, .int .i64 a0_1, .int .i64 a0_2, .int .i64 a0_3, .int .i64 a0_4, .int .i64 a0_5, .int .i64 a0_6]) (t := 23) ?hr ?_; (case hd => rfl); (case hg => rfl); (case hr => first | (go_simp; done) | (go_simp; rfl)); intro gb468 hg w7 hbox hb; have n0_ := Aside0.mk (below_step (by repeat (first | (with_reducible first | exact HB.out | apply below_alloc | apply pw_below_drewN | apply below_drew1) | exact HB.out)) hb); have n1_ := Aside0.mk (hbox); have n2_ := Aside0.mk ((by rw [hg]; exact (below_size (by repeat (first | (with_reducible first | exact HB.out | apply below_alloc | apply pw_below_drewN | apply below_drew1) | exact HB.out))) : w.heap.size ≤ gb468)); have n3_ := Aside0.mk ((by rw [hg]; exact (below_size (by repeat (first | (with_reducible first | exact HB.out | apply below_alloc | apply pw_below_drewN | apply below_drew1) | exact HB.out))) : w.heap.size ≤ gb468)); clear HB; have HB := n0_; have BK468 := n1_; have GW468 := n2_; have GE468 := n3_; clear n0_ n1_ n2_ n3_; clear hb hbox hg; have hcz8_0 : w7.cell? ⟨gb468, 0, none⟩ = some (.int .i64 a0_0) := (blk_cell BK468.out 0).trans rfl; have hcz8_1 : w7.cell? ⟨gb468, 1, none⟩ = some (.int .i64 a0_1) := (blk_cell BK468.out 1).trans rfl; have hcz8_2 : w7.cell? ⟨gb468, 2, none⟩ = some (.int .i64 a0_2) := (blk_cell BK468.out 2).trans rfl; have hcz8_3 : w7.cell? ⟨gb468, 3, none⟩ = some (.int .i64 a0_3) := (blk_cell BK468.out 3).trans rfl; have hcz8_4 : w7.cell? ⟨gb468, 4, none⟩ = some (.int .i64 a0_4) := (blk_cell BK468.out 4).trans rfl; have hcz8_5 : w7.cell? ⟨gb468, 5, none⟩ = some (.int .i64 a0_5) := (blk_cell BK468.out 5).trans rfl; have hcz8_6 : w7.cell? ⟨gb468, 6, none⟩ = some (.int .i64 a0_6) := (blk_cell BK468.out 6).trans rfl; have hfz8_0 := blk_frozen BK468.out 0; have hfz8_1 := blk_frozen BK468.out 1; have hfz8_2 := blk_frozen BK468.out 2; have hfz8_3 := blk_frozen BK468.out 3; have hfz8_4 := blk_frozen BK468.out 4; have hfz8_5 := blk_frozen BK468.out 5; have hfz8_6 := blk_frozen BK468.out 6) | ((with_reducible refine gate_callee (f := 46) rfl ?_); refine goesL_ (some 5) rfl rfl Tryd.func46 (by kernel_rfl) rfl #[.agg #[.int .i64 a0_0, .int .i64 a0_1, .int .i64 a0_2, .int .i64 a0_3, .int .i64 a0_4, .int .i64 a0_5, .int .i64 a0_6]] rfl (by (try simp only [List.map_toArray, List.map_cons, List.map_nil]); first | done | rfl | (simp only [List.length_drop, List.length_take]; rfl)) ?_; (with_reducible refine (moment_isDay.calls a0_0 a0_1 a0_2 a0_3 a0_4 a0_5 a0_6 true _ A2.out (by first | exact laid_below HL_.out (by repeat (first | (with_reducible first | exact HB.out | apply below_alloc | apply pw_below_drewN | apply below_drew1) | exact HB.out)) | exact laid_drawn HL_.out (by repeat (first | exact Drawn0.refl _ | apply Drawn0.step)))).mono ?_); rintro e w9 ⟨rfl, hb⟩; refine ⟨_, rfl, ?_⟩; have n0_ := Aside0.mk (blk_below (g := gb468) (o := .cells #[.int .i64 a0_0, .int .i64 a0_1, .int .i64 a0_2, .int .i64 a0_3, .int .i64 a0_4, .int .i64 a0_5, .int .i64 a0_6] 23 (0, 0)) (by (with_reducible repeat (first | refine blk_drewN ?_ _ | refine blk_drew ?_ | refine blk_alloc ?_ _)); exact BK468.out) hb); have n1_ := Aside0.mk (below_step (by repeat (first | (with_reducible first | exact HB.out | apply below_alloc | apply pw_below_drewN | apply below_drew1 | refine below_set ?_ GE468.out) | exact HB.out)) hb); clear BK468; clear HB; have BK468 := n0_; have HB := n1_; clear n0_ n1_; (try clear hb); (try clear hb2); (try clear hk); (try clear hi)))
   have n0_ := Aside0.mk (blk_drew BK468.out)
   have n1_ := Aside0.mk (below_drew1 HB.out)
   clear BK468
   clear HB
   have BK468 := n0_
   have HB := n1_
   clear n0_ n1_
   refine start_ (n := 8) (S := fun w' => w'.cell? ⟨gb468, 0, none⟩ = some (.int .i64 a0_0) ∧ w'.cell? ⟨gb468, 1, none⟩ = some (.int .i64 a0_1) ∧ w'.cell? ⟨gb468, 2, none⟩ = some (.int .i64 a0_2) ∧ w'.cell? ⟨gb468, 3, none⟩ = some (.int .i64 a0_3) ∧ w'.cell? ⟨gb468, 4, none⟩ = some (.int .i64 a0_4) ∧ w'.cell? ⟨gb468, 5, none⟩ = some (.int .i64 a0_5) ∧ w'.cell? ⟨gb468, 6, none⟩ = some (.int .i64 a0_6)) (ds := []) (bs_ 0 8) (by kernel_rfl) rfl rfl ⟨(blk_cell BK468.out 0).trans rfl, (blk_cell BK468.out 1).trans rfl, (blk_cell BK468.out 2).trans rfl, (blk_cell BK468.out 3).trans rfl, (blk_cell BK468.out 4).trans rfl, (blk_cell BK468.out 5).trans rfl, (blk_cell BK468.out 6).trans rfl⟩ (fun hHeld => ?_); refine with_tabW moment_PrintDay.tab3 moment_PrintDay.bits3 (fun HT_ HW_ => ?_)
   generalize w9.drew = w10 at BK468 HB hHeld ⊢
   refine pu_ 0 (some 7) ?_ (bs_ 1 7) rfl rfl (any_of HT_.out (by kernel_rfl)) (fun _ _ _ h => h) (y_ (by rfl) ?_) ?_ ?_ ?_
   rotate_left
   ·intro w'
    go_simp
    with_reducible rfl
   rotate_left
   ·simp only [Act.put, s1_, s2_, s3_, i64_w, i32_w]
    rfl
   refine take_ (i := 1) (N := some 8) (v := ?_) (a' := ?_) (bs_ 2 6) rfl rfl (take_ofW HT_.out HW_.out (by kernel_rfl)) (fun _ _ _ h => h) (Or.inl ⟨by rfl, ?_⟩) hHeld ?_ ?_
   rotate_left
   ·rintro w' ⟨s0, s1, s2, s3, s4, s5, s6⟩
    go_simp
    with_reducible rfl
   rotate_left
   ·simp only [Act.put, s1_, s2_, s3_, i64_w, i32_w]
    rfl
   refine take_ (i := 3) (N := some 10) (v := ?_) (a' := ?_) #[true, true, false, true, false, false, false, false] rfl rfl (take_ofW HT_.out HW_.out (by kernel_rfl)) (fun _ _ _ h => h) (Or.inl ⟨by rfl, ?_⟩) hHeld ?_ ?_
   rotate_left
   ·rintro w' ⟨s0, s1, s2, s3, s4, s5, s6⟩
    go_simp
    with_reducible rfl
   rotate_left
   ·simp only [Act.put, s1_, s2_, s3_, i64_w, i32_w]
    rfl
   refine one_ (i := 2) (N := some 9) (bs_ 4 4) rfl rfl (one_of HT_.out (by kernel_rfl)) (by decide) (fun K hK => ?_)
   refine goes_ Tryd.func49 (by kernel_rfl) rfl #[.int .i64 a0_2] (by rfl) rfl rfl (by (try simp only [List.map_toArray, List.map_cons, List.map_nil]); first | done | rfl | (simp only [List.length_drop, List.length_take]; rfl)) ?_
   with_reducible refine (moment_plain.calls a0_2 t470 _ A4.out).mono ?_
   rintro e w11 ⟨rfl, hb⟩
   refine ⟨_, rfl, ?_⟩
   have n0_ := Aside0.mk (blk_below (g := gb468) (o := .cells #[.int .i64 a0_0, .int .i64 a0_1, .int .i64 a0_2, .int .i64 a0_3, .int .i64 a0_4, .int .i64 a0_5, .int .i64 a0_6] 23 (0, 0)) (by (with_reducible repeat (first | refine blk_drewN ?_ _ | refine blk_drew ?_ | refine blk_alloc ?_ _)); exact BK468.out) hb)
   have n1_ := Aside0.mk (below_step (by repeat (first | (with_reducible first | exact HB.out | apply below_alloc | apply pw_below_drewN | apply below_drew1 | refine below_set ?_ GE468.out) | exact HB.out)) hb)
   clear BK468
   clear HB
   have BK468 := n0_
   have HB := n1_
   clear n0_ n1_
   (try clear hb)
   (try clear hb2)
   (try clear hk)
   (try clear hi)
   refine hK.out _ _ ⟨(blk_cell BK468.out 0).trans rfl, (blk_cell BK468.out 1).trans rfl, (blk_cell BK468.out 2).trans rfl, (blk_cell BK468.out 3).trans rfl, (blk_cell BK468.out 4).trans rfl, (blk_cell BK468.out 5).trans rfl, (blk_cell BK468.out 6).trans rfl⟩ (fun hHeld => ?_)
   clear hK K
   refine norm_ (a' := ?_) ?_ ?_
   rotate_left
   ·show Act.put _ (some 9) _ = _
    simp only [Act.put, s1_, s2_, s3_, i64_w, i32_w]
    rfl
   refine one_ (i := 4) (N := some 11) (bs_ 5 3) rfl rfl (one_of HT_.out (by kernel_rfl)) (by decide) (fun K hK => ?_)
   refine goes_ Tryd.func50 (by kernel_rfl) rfl #[.agg #[.int .i64 a0_0, .int .i64 a0_1, .int .i64 a0_2, .int .i64 a0_3, .int .i64 a0_4, .int .i64 a0_5, .int .i64 a0_6]] (by rfl) rfl rfl (by (try simp only [List.map_toArray, List.map_cons, List.map_nil]); first | done | rfl | (simp only [List.length_drop, List.length_take]; rfl)) ?_
   with_reducible refine (moment_dashed.calls a0_0 a0_1 a0_2 a0_3 a0_4 a0_5 a0_6 t471 _ A5.out).mono ?_
   rintro e w12 ⟨rfl, hb⟩
   refine ⟨_, rfl, ?_⟩
   have n0_ := Aside0.mk (blk_below (g := gb468) (o := .cells #[.int .i64 a0_0, .int .i64 a0_1, .int .i64 a0_2, .int .i64 a0_3, .int .i64 a0_4, .int .i64 a0_5, .int .i64 a0_6] 23 (0, 0)) (by (with_reducible repeat (first | refine blk_drewN ?_ _ | refine blk_drew ?_ | refine blk_alloc ?_ _)); exact BK468.out) hb)
   have n1_ := Aside0.mk (below_step (by repeat (first | (with_reducible first | exact HB.out | apply below_alloc | apply pw_below_drewN | apply below_drew1 | refine below_set ?_ GE468.out) | exact HB.out)) hb)
   clear BK468
   clear HB
   have BK468 := n0_
   have HB := n1_
   clear n0_ n1_
   (try clear hb)
   (try clear hb2)
   (try clear hk)
   (try clear hi)
   refine hK.out _ _ ⟨(blk_cell BK468.out 0).trans rfl, (blk_cell BK468.out 1).trans rfl, (blk_cell BK468.out 2).trans rfl, (blk_cell BK468.out 3).trans rfl, (blk_cell BK468.out 4).trans rfl, (blk_cell BK468.out 5).trans rfl, (blk_cell BK468.out 6).trans rfl⟩ (fun hHeld => ?_)
   clear hK K
   refine norm_ (a' := ?_) ?_ ?_
   rotate_left
   ·show Act.put _ (some 11) _ = _
    simp only [Act.put, s1_, s2_, s3_, i64_w, i32_w]
    rfl
   refine pu_ 5 (some 12) ?_ (bs_ 6 2) rfl rfl (any_of HT_.out (by kernel_rfl)) (fun _ _ _ h => h) (y_ (by rfl) ?_) ?_ ?_ ?_
   rotate_left
   ·intro w'
    go_simp
    with_reducible rfl
   rotate_left
   ·simp only [Act.put, s1_, s2_, s3_, i64_w, i32_w]
    rfl
   refine pu_ 6 (some 2) ?_ (bs_ 7 1) rfl rfl (any_of HT_.out (by kernel_rfl)) (fun _ _ _ h => h) (y_ (by rfl) ?_) ?_ ?_ ?_
   rotate_left
   ·intro w'
    go_simp
    with_reducible rfl
   rotate_left
   ·simp only [Act.put, s1_, s2_, s3_, i64_w, i32_w]
    rfl
   refine pu_ 7 (some 3) ?_ (bs_ 8 0) rfl rfl (any_of HT_.out (by kernel_rfl)) (fun _ _ _ h => h) (y_ (by rfl) ?_) ?_ ?_ ?_
   rotate_left
   ·intro w'
    go_simp
    with_reducible rfl
   rotate_left
   ·simp only [Act.put, s1_, s2_, s3_, i64_w, i32_w]
    rfl
   refine done_ (done_of HT_.out (by kernel_rfl)) ?_
   try go_wp2
   go_ret2
   exact ⟨by first | rfl | (simp [errW_none, errW_some] <;> rfl) | (simp [*, errW_none, errW_some] <;> rfl), by repeat (first | (with_reducible first | exact HB.out | apply below_alloc | apply pw_below_drewN | apply below_drew1 | refine below_set ?_ GE468.out) | exact HB.out)⟩
  ·rw [if_neg c6] at H
   exact absurd H (by simp)
 ·replace c3 := Bool.eq_false_iff.mpr c3
  subst c3
  have H1 : (some ((⟨#[]⟩ : ByteArray), 21)) = some (r1, r2) := by rw [if_neg (show ¬ (false = true) by decide)] at H; exact H
  clear H
  have H := H1
  clear H1
  simp only [Option.some.injEq, Prod.mk.injEq] at H
  obtain ⟨rfl, rfl⟩ := H
  go_enter Tryd.func24, Tryd.ntmps24
  go_wp2_with (first | ((with_reducible refine gate_dst (N := 1) rfl ?_); refine box_event ?hg (N := 1) ?hd (cs := #[.int .i64 a0_0, .int .i64 a0_1, .int .i64 a0_2, .int .i64 a0_3, .int .i64 a0_4, .int .i64 a0_5, .int .i64 a0_6]) (t := 23) ?hr ?_; (case hd => rfl); (case hg => rfl); (case hr => first | (go_simp; done) | (go_simp; rfl)); intro gb468 hg w13 hbox hb; have n0_ := Aside0.mk (below_step (by repeat (first | (with_reducible first | exact HB.out | apply below_alloc | apply pw_below_drewN | apply below_drew1) | exact HB.out)) hb); have n1_ := Aside0.mk (hbox); have n2_ := Aside0.mk ((by rw [hg]; exact (below_size (by repeat (first | (with_reducible first | exact HB.out | apply below_alloc | apply pw_below_drewN | apply below_drew1) | exact HB.out))) : w.heap.size ≤ gb468)); have n3_ := Aside0.mk ((by rw [hg]; exact (below_size (by repeat (first | (with_reducible first | exact HB.out | apply below_alloc | apply pw_below_drewN | apply below_drew1) | exact HB.out))) : w.heap.size ≤ gb468)); clear HB; have HB := n0_; have BK468 := n1_; have GW468 := n2_; have GE468 := n3_; clear n0_ n1_ n2_ n3_; clear hb hbox hg; have hcz14_0 : w13.cell? ⟨gb468, 0, none⟩ = some (.int .i64 a0_0) := (blk_cell BK468.out 0).trans rfl; have hcz14_1 : w13.cell? ⟨gb468, 1, none⟩ = some (.int .i64 a0_1) := (blk_cell BK468.out 1).trans rfl; have hcz14_2 : w13.cell? ⟨gb468, 2, none⟩ = some (.int .i64 a0_2) := (blk_cell BK468.out 2).trans rfl; have hcz14_3 : w13.cell? ⟨gb468, 3, none⟩ = some (.int .i64 a0_3) := (blk_cell BK468.out 3).trans rfl; have hcz14_4 : w13.cell? ⟨gb468, 4, none⟩ = some (.int .i64 a0_4) := (blk_cell BK468.out 4).trans rfl; have hcz14_5 : w13.cell? ⟨gb468, 5, none⟩ = some (.int .i64 a0_5) := (blk_cell BK468.out 5).trans rfl; have hcz14_6 : w13.cell? ⟨gb468, 6, none⟩ = some (.int .i64 a0_6) := (blk_cell BK468.out 6).trans rfl; have hfz14_0 := blk_frozen BK468.out 0; have hfz14_1 := blk_frozen BK468.out 1; have hfz14_2 := blk_frozen BK468.out 2; have hfz14_3 := blk_frozen BK468.out 3; have hfz14_4 := blk_frozen BK468.out 4; have hfz14_5 := blk_frozen BK468.out 5; have hfz14_6 := blk_frozen BK468.out 6) | ((with_reducible refine gate_callee (f := 46) rfl ?_); refine goesL_ (some 5) rfl rfl Tryd.func46 (by kernel_rfl) rfl #[.agg #[.int .i64 a0_0, .int .i64 a0_1, .int .i64 a0_2, .int .i64 a0_3, .int .i64 a0_4, .int .i64 a0_5, .int .i64 a0_6]] rfl (by (try simp only [List.map_toArray, List.map_cons, List.map_nil]); first | done | rfl | (simp only [List.length_drop, List.length_take]; rfl)) ?_; (with_reducible refine (moment_isDay.calls a0_0 a0_1 a0_2 a0_3 a0_4 a0_5 a0_6 false _ A2.out (by first | exact laid_below HL_.out (by repeat (first | (with_reducible first | exact HB.out | apply below_alloc | apply pw_below_drewN | apply below_drew1) | exact HB.out)) | exact laid_drawn HL_.out (by repeat (first | exact Drawn0.refl _ | apply Drawn0.step)))).mono ?_); rintro e w15 ⟨rfl, hb⟩; refine ⟨_, rfl, ?_⟩; have n0_ := Aside0.mk (blk_below (g := gb468) (o := .cells #[.int .i64 a0_0, .int .i64 a0_1, .int .i64 a0_2, .int .i64 a0_3, .int .i64 a0_4, .int .i64 a0_5, .int .i64 a0_6] 23 (0, 0)) (by (with_reducible repeat (first | refine blk_drewN ?_ _ | refine blk_drew ?_ | refine blk_alloc ?_ _)); exact BK468.out) hb); have n1_ := Aside0.mk (below_step (by repeat (first | (with_reducible first | exact HB.out | apply below_alloc | apply pw_below_drewN | apply below_drew1 | refine below_set ?_ GE468.out) | exact HB.out)) hb); clear BK468; clear HB; have BK468 := n0_; have HB := n1_; clear n0_ n1_; (try clear hb); (try clear hb2); (try clear hk); (try clear hi)))
  go_ret2
  exact ⟨by first | rfl | (simp [errW_none, errW_some] <;> rfl) | (simp [*, errW_none, errW_some] <;> rfl), by repeat (first | (with_reducible first | exact HB.out | apply below_alloc | apply pw_below_drewN | apply below_drew1 | refine below_set ?_ GE468.out) | exact HB.out)⟩
end Go.Proofs.YtjlchnmpebdggaaDoor.Mo
end
section
namespace Go.Proofs.YtjlchnmpebdggaaDoor.Mo
open Go.RowKit Go.Proofs.YtjlchnmpebdggaaDoorW.PrintWords Go.Proofs.YtjlchnmpebdggaaDoorW.PrintLast Go.Proofs.YtjlchnmpebdggaaDoorW.PrintMore
attribute [local go_sem] max2_int min2_int max_two min_two max_three min_three max_four min_four   -- for this text's walks alone
set_option linter.unusedVariables false
set_option linter.unusedSimpArgs false
def postbagref2_text.l0 : Nat → Int → Int → ByteArray → Option (ByteArray)
 | 0, _, _, _ => none
 | k + 1, x0, x1, x5 => if x0 > 0 then ((some (([(wrap64 (48 + (Int.tmod x0 10))) % 256] : List Int) : List Int)).bind fun y168 => (if (strOfNums y168).size + x5.size ≤ 9223372036854775807 then (postbagref2_text.l0 k (wrap64 (Int.tdiv x0 10)) x1 ((strOfNums y168) ++ x5)) else (none))) else (if (x5.size : Int) < x1 then ((some (([(wrap64 (48 + (Int.tmod x0 10))) % 256] : List Int) : List Int)).bind fun y171 => (if (strOfNums y171).size + x5.size ≤ 9223372036854775807 then (postbagref2_text.l0 k (wrap64 (Int.tdiv x0 10)) x1 ((strOfNums y171) ++ x5)) else (none))) else (some x5))
def postbagref2_text.f (k : Nat) (a0 : Int) (a1 : Int) : Option (ByteArray) := postbagref2_text.l0 k a0 a1 (⟨#[]⟩ : ByteArray)
set_option maxHeartbeats 8000000 in
set_option maxRecDepth 100000 in
theorem postbagref2_text.calls (k : Nat) (a0 : Int) (a1 : Int) (r : ByteArray) (w : World) (h : postbagref2_text.f k a0 a1 = some r) :
  Calls Tryd.prog 79 #[.int .i64 a0, .int .i64 a1] w fun e w' => e = .returned (.string r) ∧ Below w.heap.size w w' := by
 have HB := Aside0.mk (Below.refl w.heap.size w)
 have H : (postbagref2_text.l0 k a0 a1 (⟨#[]⟩ : ByteArray)) = some r := h
 clear h
 have H' := Aside0.mk H
 clear H
 go_enter Tryd.func79, Tryd.ntmps79
 go_wp2
 go_loopg [0, 5] k (fun kq v0 v5 w' => ∃ (x0_1 : Int) (x5_1 : ByteArray), v0 = .int .i64 x0_1 ∧ v5 = .string x5_1 ∧ Aside0 (postbagref2_text.l0 kq x0_1 a1 x5_1 = some r) ∧ Aside0 (kq ≤ k) ∧ Aside0 (Below w.heap.size w w'))
 case atStart => exact ⟨(a0), ((⟨#[]⟩ : ByteArray)), (by first | rfl | (simp; done) | (simp [*]; done)), (by first | rfl | (simp; done) | (simp [*]; done)), H', ⟨Nat.le_refl _⟩, ⟨by repeat (first | (with_reducible first | exact HB.out | apply below_alloc | apply pw_below_drewN | apply below_drew1) | exact HB.out)⟩⟩
 case round =>
  clear H'
  try clear p2
  obtain ⟨x0_1, x5_1, rfl, rfl, HA, HK1, HB⟩ := hrel
  cases gk with
  | zero => exact absurd HA.out (by simp [postbagref2_text.l0])
  | succ k1 =>
   have H := HA.out
   clear HA
   simp only [postbagref2_text.l0] at H
   by_cases c3 : x0_1 > 0
   ·rw [if_pos c3] at H
    have c3b0 : decide (0 < x0_1) = true := decide_eq_true c3
    clear c3
    obtain ⟨y168, hy168⟩ : ∃ y_ : List Int, y_ = (([(wrap64 (48 + (Int.tmod x0_1 10))) % 256] : List Int)) := ⟨_, rfl⟩
    replace H : (if (strOfNums y168).size + x5_1.size ≤ 9223372036854775807 then (postbagref2_text.l0 k1 (wrap64 (Int.tdiv x0_1 10)) a1 ((strOfNums y168) ++ x5_1)) else (none)) = some r := by first | (rw [hy168]; with_reducible exact H) | (have H2_ := (Option.bind_some _ _).symm.trans H; rw [hy168]; with_reducible exact H2_) | (have H2_ := (Option.bind_some _ _).symm.trans H; with_reducible exact H2_) | with_reducible exact H | (rw [hy168]; exact H) | exact H
    have Ny168 := Aside0.mk hy168
    clear hy168
    by_cases c4 : (strOfNums y168).size + x5_1.size ≤ 9223372036854775807
    ·rw [if_pos c4] at H
     have c4b0 := eq_true c4
     have c4b1 : decide ((strOfNums y168).size + x5_1.size ≤ 9223372036854775807) = true := decide_eq_true c4
     try have c4b2 : (9223372036854775807 < (strOfNums y168).size + x5_1.size) = False := eq_false (Nat.not_lt.2 c4)
     have H' := Aside0.mk H
     clear H
     go_wp2_with (first | ((with_reducible refine gate_dst (N := 18) rfl ?_); (try (refine gate_guard (by rfl) ?_; dsimp only)); refine Kd.R_lit (Kd.int .u8) _ 5 ?hg (N := 18) ?hd (xs := ([(wrap64 (48 + (Int.tmod x0_1 10))) % 256] : List Int)) (inner := [.int .u8 ((wrap64 (48 + (Int.tmod x0_1 10))) % 256)]) (ok := fun _ => True) (okp := fun _ => True) ?hr ?hp (fun _ hk => hk) trivial (Below.refl _ _) (Nat.le_refl _) (by simp) ?_; (case hd => rfl); (case hg => rfl); (case hr => first | (go_simp; done) | (go_simp; rfl)); (case hp => exact (Reps.one (show Kd.M (Kd.int .u8) _ _ _ ((wrap64 (48 + (Int.tmod x0_1 10))) % 256) [.int .u8 ((wrap64 (48 + (Int.tmod x0_1 10))) % 256)] from rfl) (Reps.none _ _))); intro v169 w5 ho6 hb hg_ hnew_; clear hg_ hnew_; (first | rw [← Ny168.out] at ho6 | (simp only [Int.reduceToNat] at ho6; rw [← Ny168.out] at ho6)); have n0_ := Aside0.mk (Kd.R_lower ho6 (below_size (by repeat (first | (with_reducible first | exact HB.out | apply below_alloc | apply pw_below_drewN | apply below_drew1) | exact HB.out)))); have n1_ := Aside0.mk (below_step (by repeat (first | (with_reducible first | exact HB.out | apply below_alloc | apply pw_below_drewN | apply below_drew1) | exact HB.out)) hb); clear HB; have HO170 := n0_; have HB := n1_; clear n0_ n1_; clear hb ho6; have hcv7 := own_string (P := Tryd.prog) Tryd.underlying58 Tryd.underlying5 Tryd.underlying9 (Kd.own_of_R HO170.out)))
     go_roundg k1
     case measure => have := HK1.out; omega
     case rel => exact ⟨(wrap64 (Int.tdiv x0_1 10)), ((strOfNums y168) ++ x5_1), (by first | rfl | (simp; done) | (simp [*]; done)), (by first | rfl | (simp; done) | (simp [*]; done)), H', ⟨by have := HK1.out; omega⟩, ⟨by repeat (first | (with_reducible first | exact HB.out | apply below_alloc | apply pw_below_drewN | apply below_drew1) | exact HB.out)⟩⟩
    ·rw [if_neg c4] at H
     exact absurd H (by simp)
   ·rw [if_neg c3] at H
    have c3b0 : decide (0 < x0_1) = false := decide_eq_false c3
    clear c3
    by_cases c8 : (x5_1.size : Int) < a1
    ·rw [if_pos c8] at H
     have c8b0 : decide ((x5_1.size : Int) < a1) = true := decide_eq_true c8
     clear c8
     obtain ⟨y171, hy171⟩ : ∃ y_ : List Int, y_ = (([(wrap64 (48 + (Int.tmod x0_1 10))) % 256] : List Int)) := ⟨_, rfl⟩
     replace H : (if (strOfNums y171).size + x5_1.size ≤ 9223372036854775807 then (postbagref2_text.l0 k1 (wrap64 (Int.tdiv x0_1 10)) a1 ((strOfNums y171) ++ x5_1)) else (none)) = some r := by first | (rw [hy171]; with_reducible exact H) | (have H2_ := (Option.bind_some _ _).symm.trans H; rw [hy171]; with_reducible exact H2_) | (have H2_ := (Option.bind_some _ _).symm.trans H; with_reducible exact H2_) | with_reducible exact H | (rw [hy171]; exact H) | exact H
     have Ny171 := Aside0.mk hy171
     clear hy171
     by_cases c9 : (strOfNums y171).size + x5_1.size ≤ 9223372036854775807
     ·rw [if_pos c9] at H
      have c9b0 := eq_true c9
      have c9b1 : decide ((strOfNums y171).size + x5_1.size ≤ 9223372036854775807) = true := decide_eq_true c9
      try have c9b2 : (9223372036854775807 < (strOfNums y171).size + x5_1.size) = False := eq_false (Nat.not_lt.2 c9)
      have H' := Aside0.mk H
      clear H
      go_wp2_with (first | ((with_reducible refine gate_dst (N := 18) rfl ?_); (try (refine gate_guard (by rfl) ?_; dsimp only)); refine Kd.R_lit (Kd.int .u8) _ 5 ?hg (N := 18) ?hd (xs := ([(wrap64 (48 + (Int.tmod x0_1 10))) % 256] : List Int)) (inner := [.int .u8 ((wrap64 (48 + (Int.tmod x0_1 10))) % 256)]) (ok := fun _ => True) (okp := fun _ => True) ?hr ?hp (fun _ hk => hk) trivial (Below.refl _ _) (Nat.le_refl _) (by simp) ?_; (case hd => rfl); (case hg => rfl); (case hr => first | (go_simp; done) | (go_simp; rfl)); (case hp => exact (Reps.one (show Kd.M (Kd.int .u8) _ _ _ ((wrap64 (48 + (Int.tmod x0_1 10))) % 256) [.int .u8 ((wrap64 (48 + (Int.tmod x0_1 10))) % 256)] from rfl) (Reps.none _ _))); intro v172 w10 ho11 hb hg_ hnew_; clear hg_ hnew_; (first | rw [← Ny171.out] at ho11 | (simp only [Int.reduceToNat] at ho11; rw [← Ny171.out] at ho11)); have n0_ := Aside0.mk (Kd.R_lower ho11 (below_size (by repeat (first | (with_reducible first | exact HB.out | apply below_alloc | apply pw_below_drewN | apply below_drew1) | exact HB.out)))); have n1_ := Aside0.mk (below_step (by repeat (first | (with_reducible first | exact HB.out | apply below_alloc | apply pw_below_drewN | apply below_drew1) | exact HB.out)) hb); clear HB; have HO173 := n0_; have HB := n1_; clear n0_ n1_; clear hb ho11; have hcv12 := own_string (P := Tryd.prog) Tryd.underlying58 Tryd.underlying5 Tryd.underlying9 (Kd.own_of_R HO173.out)))
      go_roundg k1
      case measure => have := HK1.out; omega
      case rel => exact ⟨(wrap64 (Int.tdiv x0_1 10)), ((strOfNums y171) ++ x5_1), (by first | rfl | (simp; done) | (simp [*]; done)), (by first | rfl | (simp; done) | (simp [*]; done)), H', ⟨by have := HK1.out; omega⟩, ⟨by repeat (first | (with_reducible first | exact HB.out | apply below_alloc | apply pw_below_drewN | apply below_drew1) | exact HB.out)⟩⟩
     ·rw [if_neg c9] at H
      exact absurd H (by simp)
    ·rw [if_neg c8] at H
     have c8b0 : decide ((x5_1.size : Int) < a1) = false := decide_eq_false c8
     clear c8
     obtain rfl := Option.some.inj H
     go_wp2
     go_ret
     exact ⟨by first | rfl | (simp [errW_none, errW_some] <;> rfl) | (simp [*, errW_none, errW_some] <;> rfl), by repeat (first | (with_reducible first | exact HB.out | apply below_alloc | apply pw_below_drewN | apply below_drew1) | exact HB.out)⟩
end Go.Proofs.YtjlchnmpebdggaaDoor.Mo
end
section
-- PRINTED by a driver of print.py
namespace Go.Proofs.YtjlchnmpebdggaaDoor.Mo
open Go.RowKit Go.Proofs.YtjlchnmpebdggaaDoorW.PrintWords Go.Proofs.YtjlchnmpebdggaaDoorW.PrintLast Go.Proofs.YtjlchnmpebdggaaDoorW.PrintMore
attribute [local go_sem] max2_int min2_int max_two min_two max_three min_three max_four min_four   -- for this text's walks alone
set_option linter.unusedVariables false
set_option linter.unusedSimpArgs false
def postbagref2_PrintDay.f (k : Nat) (a0_0 : Int) (a0_1 : Int) (a0_2 : Int) (a0_3 : Int) (a0_4 : Int) (a0_5 : Int) (a0_6 : Int) : Option (ByteArray × Int) := (postbagref2_IsDay.f k a0_0 a0_1 a0_2 a0_3 a0_4 a0_5 a0_6).bind fun t615 => (if t615 = true then ((postbagref2_text.f k a0_2 1).bind fun t616 => (if t616.size + 1 ≤ 9223372036854775807 then (if 0 ≤ (wrap64 ((wrap64 (3 * a0_1)) - 3)) then (if (wrap64 ((wrap64 (3 * a0_1)) - 3)) ≤ (wrap64 (3 * a0_1)) then (if (wrap64 (3 * a0_1)) ≤ 36 then (if (t616 ++ (⟨#[45]⟩ : ByteArray)).size + ((⟨#[74, 97, 110, 70, 101, 98, 77, 97, 114, 65, 112, 114, 77, 97, 121, 74, 117, 110, 74, 117, 108, 65, 117, 103, 83, 101, 112, 79, 99, 116, 78, 111, 118, 68, 101, 99]⟩ : ByteArray).extract ((wrap64 ((wrap64 (3 * a0_1)) - 3)) : Int).toNat ((wrap64 (3 * a0_1)) : Int).toNat).size ≤ 9223372036854775807 then (if ((t616 ++ (⟨#[45]⟩ : ByteArray)) ++ ((⟨#[74, 97, 110, 70, 101, 98, 77, 97, 114, 65, 112, 114, 77, 97, 121, 74, 117, 110, 74, 117, 108, 65, 117, 103, 83, 101, 112, 79, 99, 116, 78, 111, 118, 68, 101, 99]⟩ : ByteArray).extract ((wrap64 ((wrap64 (3 * a0_1)) - 3)) : Int).toNat ((wrap64 (3 * a0_1)) : Int).toNat)).size + 1 ≤ 9223372036854775807 then ((postbagref2_text.f k a0_0 4).bind fun t617 => (if (((t616 ++ (⟨#[45]⟩ : ByteArray)) ++ ((⟨#[74, 97, 110, 70, 101, 98, 77, 97, 114, 65, 112, 114, 77, 97, 121, 74, 117, 110, 74, 117, 108, 65, 117, 103, 83, 101, 112, 79, 99, 116, 78, 111, 118, 68, 101, 99]⟩ : ByteArray).extract ((wrap64 ((wrap64 (3 * a0_1)) - 3)) : Int).toNat ((wrap64 (3 * a0_1)) : Int).toNat)) ++ (⟨#[45]⟩ : ByteArray)).size + t617.size ≤ 9223372036854775807 then (some ((((t616 ++ (⟨#[45]⟩ : ByteArray)) ++ ((⟨#[74, 97, 110, 70, 101, 98, 77, 97, 114, 65, 112, 114, 77, 97, 121, 74, 117, 110, 74, 117, 108, 65, 117, 103, 83, 101, 112, 79, 99, 116, 78, 111, 118, 68, 101, 99]⟩ : ByteArray).extract ((wrap64 ((wrap64 (3 * a0_1)) - 3)) : Int).toNat ((wrap64 (3 * a0_1)) : Int).toNat)) ++ (⟨#[45]⟩ : ByteArray)) ++ t617, 0)) else (none))) else (none)) else (none)) else (none)) else (none)) else (none)) else (none))) else (some ((⟨#[]⟩ : ByteArray), 21)))
def postbagref2_PrintDay.T3 : Bool × List (List Nat × List Nat) := (true, [([], []), ([0], [0]), ([1], [1]), ([2], [2]), ([], []), ([4], [4]), ([5], [5]), ([6], [6]), ([], []), ([8], [8]), ([9], [9]), ([7, 10], [7, 10]), ([3, 11], [3, 11]), ([12], [12]), ([], []), ([14], [14]), ([15, 2], [15]), ([13, 16], [13, 16]), ([17, 16, 0, 1, 2, 3, 4, 5, 6, 7, 8, 9, 10, 11, 12, 13, 14, 15, 16, 17], [17]), ([18, 0, 1, 2, 3, 4, 5, 6, 7, 8, 9, 10, 11, 12, 13, 14, 15, 16, 17, 18], [])])
def postbagref2_PrintDay.B3 : List Nat := [0, 1, 3, 7, 0, 16, 48, 112, 0, 256, 768, 2032, 4095, 8191, 0, 16384, 49159, 131071, 262143, 524287]
theorem postbagref2_PrintDay.tab3 : rtab .any (opsOf Tryd.f62 3) = postbagref2_PrintDay.T3 := by kernel_rfl
theorem postbagref2_PrintDay.bits3 : waitsOk postbagref2_PrintDay.T3.2 postbagref2_PrintDay.B3 = true := by kernel_rfl
set_option maxHeartbeats 8000000 in
set_option maxRecDepth 100000 in
theorem postbagref2_PrintDay.calls (k : Nat) (a0_0 : Int) (a0_1 : Int) (a0_2 : Int) (a0_3 : Int) (a0_4 : Int) (a0_5 : Int) (a0_6 : Int) (r1 : ByteArray) (r2 : Int) (w : World) (h : postbagref2_PrintDay.f k a0_0 a0_1 a0_2 a0_3 a0_4 a0_5 a0_6 = some (r1, r2)) :
  Calls Tryd.prog 62 #[.agg #[.int .i64 a0_0, .int .i64 a0_1, .int .i64 a0_2, .int .i64 a0_3, .int .i64 a0_4, .int .i64 a0_5, .int .i64 a0_6]] w fun e w' => e = .returned (.tuple #[.string r1, .int .i64 r2]) ∧ Below w.heap.size w w' := by
 have hu23 := Tryd.underlying23
 have HB := Aside0.mk (Below.refl w.heap.size w)
 have H : ((postbagref2_IsDay.f k a0_0 a0_1 a0_2 a0_3 a0_4 a0_5 a0_6).bind fun t615 => (if t615 = true then ((postbagref2_text.f k a0_2 1).bind fun t616 => (if t616.size + 1 ≤ 9223372036854775807 then (if 0 ≤ (wrap64 ((wrap64 (3 * a0_1)) - 3)) then (if (wrap64 ((wrap64 (3 * a0_1)) - 3)) ≤ (wrap64 (3 * a0_1)) then (if (wrap64 (3 * a0_1)) ≤ 36 then (if (t616 ++ (⟨#[45]⟩ : ByteArray)).size + ((⟨#[74, 97, 110, 70, 101, 98, 77, 97, 114, 65, 112, 114, 77, 97, 121, 74, 117, 110, 74, 117, 108, 65, 117, 103, 83, 101, 112, 79, 99, 116, 78, 111, 118, 68, 101, 99]⟩ : ByteArray).extract ((wrap64 ((wrap64 (3 * a0_1)) - 3)) : Int).toNat ((wrap64 (3 * a0_1)) : Int).toNat).size ≤ 9223372036854775807 then (if ((t616 ++ (⟨#[45]⟩ : ByteArray)) ++ ((⟨#[74, 97, 110, 70, 101, 98, 77, 97, 114, 65, 112, 114, 77, 97, 121, 74, 117, 110, 74, 117, 108, 65, 117, 103, 83, 101, 112, 79, 99, 116, 78, 111, 118, 68, 101, 99]⟩ : ByteArray).extract ((wrap64 ((wrap64 (3 * a0_1)) - 3)) : Int).toNat ((wrap64 (3 * a0_1)) : Int).toNat)).size + 1 ≤ 9223372036854775807 then ((postbagref2_text.f k a0_0 4).bind fun t617 => (if (((t616 ++ (⟨#[45]⟩ : ByteArray)) ++ ((⟨#[74, 97, 110, 70, 101, 98, 77, 97, 114, 65, 112, 114, 77, 97, 121, 74, 117, 110, 74, 117, 108, 65, 117, 103, 83, 101, 112, 79, 99, 116, 78, 111, 118, 68, 101, 99]⟩ : ByteArray).extract ((wrap64 ((wrap64 (3 * a0_1)) - 3)) : Int).toNat ((wrap64 (3 * a0_1)) : Int).toNat)) ++ (⟨#[45]⟩ : ByteArray)).size + t617.size ≤ 9223372036854775807 then (some ((((t616 ++ (⟨#[45]⟩ : ByteArray)) ++ ((⟨#[74, 97, 110, 70, 101, 98, 77, 97, 114, 65, 112, 114, 77, 97, 121, 74, 117, 110, 74, 117, 108, 65, 117, 103, 83, 101, 112, 79, 99, 116, 78, 111, 118, 68, 101, 99]⟩ : ByteArray).extract ((wrap64 ((wrap64 (3 * a0_1)) - 3)) : Int).toNat ((wrap64 (3 * a0_1)) : Int).toNat)) ++ (⟨#[45]⟩ : ByteArray)) ++ t617, 0)) else (none))) else (none)) else (none)) else (none)) else (none)) else (none)) else (none))) else (some ((⟨#[]⟩ : ByteArray), 21)))) = some (r1, r2) := h
 clear h
 replace H := Option.bind_eq_some_iff.mp H
 obtain ⟨t615, A20, H⟩ := H
 replace H : (if t615 = true then ((postbagref2_text.f k a0_2 1).bind fun t616 => (if t616.size + 1 ≤ 9223372036854775807 then (if 0 ≤ (wrap64 ((wrap64 (3 * a0_1)) - 3)) then (if (wrap64 ((wrap64 (3 * a0_1)) - 3)) ≤ (wrap64 (3 * a0_1)) then (if (wrap64 (3 * a0_1)) ≤ 36 then (if (t616 ++ (⟨#[45]⟩ : ByteArray)).size + ((⟨#[74, 97, 110, 70, 101, 98, 77, 97, 114, 65, 112, 114, 77, 97, 121, 74, 117, 110, 74, 117, 108, 65, 117, 103, 83, 101, 112, 79, 99, 116, 78, 111, 118, 68, 101, 99]⟩ : ByteArray).extract ((wrap64 ((wrap64 (3 * a0_1)) - 3)) : Int).toNat ((wrap64 (3 * a0_1)) : Int).toNat).size ≤ 9223372036854775807 then (if ((t616 ++ (⟨#[45]⟩ : ByteArray)) ++ ((⟨#[74, 97, 110, 70, 101, 98, 77, 97, 114, 65, 112, 114, 77, 97, 121, 74, 117, 110, 74, 117, 108, 65, 117, 103, 83, 101, 112, 79, 99, 116, 78, 111, 118, 68, 101, 99]⟩ : ByteArray).extract ((wrap64 ((wrap64 (3 * a0_1)) - 3)) : Int).toNat ((wrap64 (3 * a0_1)) : Int).toNat)).size + 1 ≤ 9223372036854775807 then ((postbagref2_text.f k a0_0 4).bind fun t617 => (if (((t616 ++ (⟨#[45]⟩ : ByteArray)) ++ ((⟨#[74, 97, 110, 70, 101, 98, 77, 97, 114, 65, 112, 114, 77, 97, 121, 74, 117, 110, 74, 117, 108, 65, 117, 103, 83, 101, 112, 79, 99, 116, 78, 111, 118, 68, 101, 99]⟩ : ByteArray).extract ((wrap64 ((wrap64 (3 * a0_1)) - 3)) : Int).toNat ((wrap64 (3 * a0_1)) : Int).toNat)) ++ (⟨#[45]⟩ : ByteArray)).size + t617.size ≤ 9223372036854775807 then (some ((((t616 ++ (⟨#[45]⟩ : ByteArray)) ++ ((⟨#[74, 97, 110, 70, 101, 98, 77, 97, 114, 65, 112, 114, 77, 97, 121, 74, 117, 110, 74, 117, 108, 65, 117, 103, 83, 101, 112, 79, 99, 116, 78, 111, 118, 68, 101, 99]⟩ : ByteArray).extract ((wrap64 ((wrap64 (3 * a0_1)) - 3)) : Int).toNat ((wrap64 (3 * a0_1)) : Int).toNat)) ++ (⟨#[45]⟩ : ByteArray)) ++ t617, 0)) else (none))) else (none)) else (none)) else (none)) else (none)) else (none)) else (none))) else (some ((⟨#[]⟩ : ByteArray), 21))) = some (r1, r2) := H
 have A2 := Aside0.mk A20
 clear A20
 by_cases c3 : t615 = true
 ·subst c3
  have H1 : ((postbagref2_text.f k a0_2 1).bind fun t616 => (if t616.size + 1 ≤ 9223372036854775807 then (if 0 ≤ (wrap64 ((wrap64 (3 * a0_1)) - 3)) then (if (wrap64 ((wrap64 (3 * a0_1)) - 3)) ≤ (wrap64 (3 * a0_1)) then (if (wrap64 (3 * a0_1)) ≤ 36 then (if (t616 ++ (⟨#[45]⟩ : ByteArray)).size + ((⟨#[74, 97, 110, 70, 101, 98, 77, 97, 114, 65, 112, 114, 77, 97, 121, 74, 117, 110, 74, 117, 108, 65, 117, 103, 83, 101, 112, 79, 99, 116, 78, 111, 118, 68, 101, 99]⟩ : ByteArray).extract ((wrap64 ((wrap64 (3 * a0_1)) - 3)) : Int).toNat ((wrap64 (3 * a0_1)) : Int).toNat).size ≤ 9223372036854775807 then (if ((t616 ++ (⟨#[45]⟩ : ByteArray)) ++ ((⟨#[74, 97, 110, 70, 101, 98, 77, 97, 114, 65, 112, 114, 77, 97, 121, 74, 117, 110, 74, 117, 108, 65, 117, 103, 83, 101, 112, 79, 99, 116, 78, 111, 118, 68, 101, 99]⟩ : ByteArray).extract ((wrap64 ((wrap64 (3 * a0_1)) - 3)) : Int).toNat ((wrap64 (3 * a0_1)) : Int).toNat)).size + 1 ≤ 9223372036854775807 then ((postbagref2_text.f k a0_0 4).bind fun t617 => (if (((t616 ++ (⟨#[45]⟩ : ByteArray)) ++ ((⟨#[74, 97, 110, 70, 101, 98, 77, 97, 114, 65, 112, 114, 77, 97, 121, 74, 117, 110, 74, 117, 108, 65, 117, 103, 83, 101, 112, 79, 99, 116, 78, 111, 118, 68, 101, 99]⟩ : ByteArray).extract ((wrap64 ((wrap64 (3 * a0_1)) - 3)) : Int).toNat ((wrap64 (3 * a0_1)) : Int).toNat)) ++ (⟨#[45]⟩ : ByteArray)).size + t617.size ≤ 9223372036854775807 then (some ((((t616 ++ (⟨#[45]⟩ : ByteArray)) ++ ((⟨#[74, 97, 110, 70, 101, 98, 77, 97, 114, 65, 112, 114, 77, 97, 121, 74, 117, 110, 74, 117, 108, 65, 117, 103, 83, 101, 112, 79, 99, 116, 78, 111, 118, 68, 101, 99]⟩ : ByteArray).extract ((wrap64 ((wrap64 (3 * a0_1)) - 3)) : Int).toNat ((wrap64 (3 * a0_1)) : Int).toNat)) ++ (⟨#[45]⟩ : ByteArray)) ++ t617, 0)) else (none))) else (none)) else (none)) else (none)) else (none)) else (none)) else (none))) = some (r1, r2) := by rw [if_pos rfl] at H; exact H
  clear H
  have H := H1
  clear H1
  replace H := Option.bind_eq_some_iff.mp H
  obtain ⟨t616, A40, H⟩ := H
  replace H : (if t616.size + 1 ≤ 9223372036854775807 then (if 0 ≤ (wrap64 ((wrap64 (3 * a0_1)) - 3)) then (if (wrap64 ((wrap64 (3 * a0_1)) - 3)) ≤ (wrap64 (3 * a0_1)) then (if (wrap64 (3 * a0_1)) ≤ 36 then (if (t616 ++ (⟨#[45]⟩ : ByteArray)).size + ((⟨#[74, 97, 110, 70, 101, 98, 77, 97, 114, 65, 112, 114, 77, 97, 121, 74, 117, 110, 74, 117, 108, 65, 117, 103, 83, 101, 112, 79, 99, 116, 78, 111, 118, 68, 101, 99]⟩ : ByteArray).extract ((wrap64 ((wrap64 (3 * a0_1)) - 3)) : Int).toNat ((wrap64 (3 * a0_1)) : Int).toNat).size ≤ 9223372036854775807 then (if ((t616 ++ (⟨#[45]⟩ : ByteArray)) ++ ((⟨#[74, 97, 110, 70, 101, 98, 77, 97, 114, 65, 112, 114, 77, 97, 121, 74, 117, 110, 74, 117, 108, 65, 117, 103, 83, 101, 112, 79, 99, 116, 78, 111, 118, 68, 101, 99]⟩ : ByteArray).extract ((wrap64 ((wrap64 (3 * a0_1)) - 3)) : Int).toNat ((wrap64 (3 * a0_1)) : Int).toNat)).size + 1 ≤ 9223372036854775807 then ((postbagref2_text.f k a0_0 4).bind fun t617 => (if (((t616 ++ (⟨#[45]⟩ : ByteArray)) ++ ((⟨#[74, 97, 110, 70, 101, 98, 77, 97, 114, 65, 112, 114, 77, 97, 121, 74, 117, 110, 74, 117, 108, 65, 117, 103, 83, 101, 112, 79, 99, 116, 78, 111, 118, 68, 101, 99]⟩ : ByteArray).extract ((wrap64 ((wrap64 (3 * a0_1)) - 3)) : Int).toNat ((wrap64 (3 * a0_1)) : Int).toNat)) ++ (⟨#[45]⟩ : ByteArray)).size + t617.size ≤ 9223372036854775807 then (some ((((t616 ++ (⟨#[45]⟩ : ByteArray)) ++ ((⟨#[74, 97, 110, 70, 101, 98, 77, 97, 114, 65, 112, 114, 77, 97, 121, 74, 117, 110, 74, 117, 108, 65, 117, 103, 83, 101, 112, 79, 99, 116, 78, 111, 118, 68, 101, 99]⟩ : ByteArray).extract ((wrap64 ((wrap64 (3 * a0_1)) - 3)) : Int).toNat ((wrap64 (3 * a0_1)) : Int).toNat)) ++ (⟨#[45]⟩ : ByteArray)) ++ t617, 0)) else (none))) else (none)) else (none)) else (none)) else (none)) else (none)) else (none)) = some (r1, r2) := H
  have A4 := Aside0.mk A40
  clear A40
  by_cases c5 : t616.size + 1 ≤ 9223372036854775807
  ·rw [if_pos c5] at H
   have c5b0 := eq_true c5
   have c5b1 : decide (t616.size + 1 ≤ 9223372036854775807) = true := decide_eq_true c5
   try have c5b2 : (9223372036854775807 < t616.size + 1) = False := eq_false (Nat.not_lt.2 c5)
   obtain ⟨ji6, hji6⟩ : ∃ j_ : Int, (wrap64 ((wrap64 (3 * a0_1)) - 3)) = j_ := ⟨_, rfl⟩
   replace H : (if 0 ≤ (ji6) then (if (ji6) ≤ (wrap64 (3 * a0_1)) then (if (wrap64 (3 * a0_1)) ≤ 36 then (if (t616 ++ (⟨#[45]⟩ : ByteArray)).size + ((⟨#[74, 97, 110, 70, 101, 98, 77, 97, 114, 65, 112, 114, 77, 97, 121, 74, 117, 110, 74, 117, 108, 65, 117, 103, 83, 101, 112, 79, 99, 116, 78, 111, 118, 68, 101, 99]⟩ : ByteArray).extract ((ji6) : Int).toNat ((wrap64 (3 * a0_1)) : Int).toNat).size ≤ 9223372036854775807 then (if ((t616 ++ (⟨#[45]⟩ : ByteArray)) ++ ((⟨#[74, 97, 110, 70, 101, 98, 77, 97, 114, 65, 112, 114, 77, 97, 121, 74, 117, 110, 74, 117, 108, 65, 117, 103, 83, 101, 112, 79, 99, 116, 78, 111, 118, 68, 101, 99]⟩ : ByteArray).extract ((ji6) : Int).toNat ((wrap64 (3 * a0_1)) : Int).toNat)).size + 1 ≤ 9223372036854775807 then ((postbagref2_text.f k a0_0 4).bind fun t617 => (if (((t616 ++ (⟨#[45]⟩ : ByteArray)) ++ ((⟨#[74, 97, 110, 70, 101, 98, 77, 97, 114, 65, 112, 114, 77, 97, 121, 74, 117, 110, 74, 117, 108, 65, 117, 103, 83, 101, 112, 79, 99, 116, 78, 111, 118, 68, 101, 99]⟩ : ByteArray).extract ((ji6) : Int).toNat ((wrap64 (3 * a0_1)) : Int).toNat)) ++ (⟨#[45]⟩ : ByteArray)).size + t617.size ≤ 9223372036854775807 then (some ((((t616 ++ (⟨#[45]⟩ : ByteArray)) ++ ((⟨#[74, 97, 110, 70, 101, 98, 77, 97, 114, 65, 112, 114, 77, 97, 121, 74, 117, 110, 74, 117, 108, 65, 117, 103, 83, 101, 112, 79, 99, 116, 78, 111, 118, 68, 101, 99]⟩ : ByteArray).extract ((ji6) : Int).toNat ((wrap64 (3 * a0_1)) : Int).toNat)) ++ (⟨#[45]⟩ : ByteArray)) ++ t617, 0)) else (none))) else (none)) else (none)) else (none)) else (none)) else (none)) = some (r1, r2) := by first | (rw [hji6] at H; exact H) | (simp only [hji6] at H ⊢; exact H)
   (try rw [hji6] at A2)
   (try rw [hji6] at A4)
   have hji6w : (IntKind.i64.wrap ((wrap64 (3 * a0_1)) - 3)) = ji6 := (i64_w _).trans hji6
   by_cases c7 : 0 ≤ (ji6)
   ·rw [if_pos c7] at H
    have c7b0 := eq_true c7
    have c7b1 : decide (0 ≤ (ji6)) = true := decide_eq_true c7
    clear c7
    by_cases c8 : (ji6) ≤ (wrap64 (3 * a0_1))
    ·rw [if_pos c8] at H
     have c8b0 := eq_true c8
     have c8b1 : decide ((ji6) ≤ (wrap64 (3 * a0_1))) = true := decide_eq_true c8
     clear c8
     by_cases c9 : (wrap64 (3 * a0_1)) ≤ 36
     ·rw [if_pos c9] at H
      have c9b0 := eq_true c9
      have c9b1 : decide ((wrap64 (3 * a0_1)) ≤ 36) = true := decide_eq_true c9
      clear c9
      by_cases c10 : (t616 ++ (⟨#[45]⟩ : ByteArray)).size + ((⟨#[74, 97, 110, 70, 101, 98, 77, 97, 114, 65, 112, 114, 77, 97, 121, 74, 117, 110, 74, 117, 108, 65, 117, 103, 83, 101, 112, 79, 99, 116, 78, 111, 118, 68, 101, 99]⟩ : ByteArray).extract ((ji6) : Int).toNat ((wrap64 (3 * a0_1)) : Int).toNat).size ≤ 9223372036854775807
      ·rw [if_pos c10] at H
       have c10b0 := eq_true c10
       have c10b1 : decide ((t616 ++ (⟨#[45]⟩ : ByteArray)).size + ((⟨#[74, 97, 110, 70, 101, 98, 77, 97, 114, 65, 112, 114, 77, 97, 121, 74, 117, 110, 74, 117, 108, 65, 117, 103, 83, 101, 112, 79, 99, 116, 78, 111, 118, 68, 101, 99]⟩ : ByteArray).extract ((ji6) : Int).toNat ((wrap64 (3 * a0_1)) : Int).toNat).size ≤ 9223372036854775807) = true := decide_eq_true c10
       try have c10b2 : (9223372036854775807 < (t616 ++ (⟨#[45]⟩ : ByteArray)).size + ((⟨#[74, 97, 110, 70, 101, 98, 77, 97, 114, 65, 112, 114, 77, 97, 121, 74, 117, 110, 74, 117, 108, 65, 117, 103, 83, 101, 112, 79, 99, 116, 78, 111, 118, 68, 101, 99]⟩ : ByteArray).extract ((ji6) : Int).toNat ((wrap64 (3 * a0_1)) : Int).toNat).size) = False := eq_false (Nat.not_lt.2 c10)
       try have c10b7 : (9223372036854775807 < t616.size + 1 + ((wrap64 (3 * a0_1)).toNat - (ji6).toNat)) = False := eq_false (by have h_ := c10; have e0_ : (⟨#[45]⟩ : ByteArray).size = 1 := rfl; (try dsimp only at e0_); have e1_ : (⟨#[74, 97, 110, 70, 101, 98, 77, 97, 114, 65, 112, 114, 77, 97, 121, 74, 117, 110, 74, 117, 108, 65, 117, 103, 83, 101, 112, 79, 99, 116, 78, 111, 118, 68, 101, 99]⟩ : ByteArray).size = 36 := rfl; (try dsimp only at e1_); (try have qc5_ := of_decide_eq_true c5b1); (try have qc7_ := of_decide_eq_true c7b1); (try have qc8_ := of_decide_eq_true c8b1); (try have qc9_ := of_decide_eq_true c9b1); (try have qc10_ := of_decide_eq_true c10b1); simp only [ByteArray.size_append, ByteArray.size_extract] at h_; first | exact Nat.not_lt.2 h_ | omega | (simp at h_ ⊢; omega))
       try have c10b3 : (9223372036854775807 < t616.size + (⟨#[45]⟩ : ByteArray).size + ((⟨#[74, 97, 110, 70, 101, 98, 77, 97, 114, 65, 112, 114, 77, 97, 121, 74, 117, 110, 74, 117, 108, 65, 117, 103, 83, 101, 112, 79, 99, 116, 78, 111, 118, 68, 101, 99]⟩ : ByteArray).extract ((ji6) : Int).toNat ((wrap64 (3 * a0_1)) : Int).toNat).size) = False := eq_false (by have h_ := c10; simp only [ByteArray.size_append] at h_; omega)
       by_cases c11 : ((t616 ++ (⟨#[45]⟩ : ByteArray)) ++ ((⟨#[74, 97, 110, 70, 101, 98, 77, 97, 114, 65, 112, 114, 77, 97, 121, 74, 117, 110, 74, 117, 108, 65, 117, 103, 83, 101, 112, 79, 99, 116, 78, 111, 118, 68, 101, 99]⟩ : ByteArray).extract ((ji6) : Int).toNat ((wrap64 (3 * a0_1)) : Int).toNat)).size + 1 ≤ 9223372036854775807
       ·rw [if_pos c11] at H
        have c11b0 := eq_true c11
        have c11b1 : decide (((t616 ++ (⟨#[45]⟩ : ByteArray)) ++ ((⟨#[74, 97, 110, 70, 101, 98, 77, 97, 114, 65, 112, 114, 77, 97, 121, 74, 117, 110, 74, 117, 108, 65, 117, 103, 83, 101, 112, 79, 99, 116, 78, 111, 118, 68, 101, 99]⟩ : ByteArray).extract ((ji6) : Int).toNat ((wrap64 (3 * a0_1)) : Int).toNat)).size + 1 ≤ 9223372036854775807) = true := decide_eq_true c11
        try have c11b2 : (9223372036854775807 < ((t616 ++ (⟨#[45]⟩ : ByteArray)) ++ ((⟨#[74, 97, 110, 70, 101, 98, 77, 97, 114, 65, 112, 114, 77, 97, 121, 74, 117, 110, 74, 117, 108, 65, 117, 103, 83, 101, 112, 79, 99, 116, 78, 111, 118, 68, 101, 99]⟩ : ByteArray).extract ((ji6) : Int).toNat ((wrap64 (3 * a0_1)) : Int).toNat)).size + 1) = False := eq_false (Nat.not_lt.2 c11)
        try have c11b7 : (9223372036854775807 < t616.size + 1 + ((wrap64 (3 * a0_1)).toNat - (ji6).toNat) + 1) = False := eq_false (by have h_ := c11; have e0_ : (⟨#[45]⟩ : ByteArray).size = 1 := rfl; (try dsimp only at e0_); have e1_ : (⟨#[74, 97, 110, 70, 101, 98, 77, 97, 114, 65, 112, 114, 77, 97, 121, 74, 117, 110, 74, 117, 108, 65, 117, 103, 83, 101, 112, 79, 99, 116, 78, 111, 118, 68, 101, 99]⟩ : ByteArray).size = 36 := rfl; (try dsimp only at e1_); (try have qc7_ := of_decide_eq_true c7b1); (try have qc8_ := of_decide_eq_true c8b1); (try have qc9_ := of_decide_eq_true c9b1); (try have qc10_ := of_decide_eq_true c10b1); (try have qc11_ := of_decide_eq_true c11b1); simp only [ByteArray.size_append, ByteArray.size_extract] at h_; first | exact Nat.not_lt.2 h_ | omega | (simp at h_ ⊢; omega))
        try have c11b3 : (9223372036854775807 < t616.size + (⟨#[45]⟩ : ByteArray).size + ((⟨#[74, 97, 110, 70, 101, 98, 77, 97, 114, 65, 112, 114, 77, 97, 121, 74, 117, 110, 74, 117, 108, 65, 117, 103, 83, 101, 112, 79, 99, 116, 78, 111, 118, 68, 101, 99]⟩ : ByteArray).extract ((ji6) : Int).toNat ((wrap64 (3 * a0_1)) : Int).toNat).size + 1) = False := eq_false (by have h_ := c11; simp only [ByteArray.size_append] at h_; omega)
        replace H := Option.bind_eq_some_iff.mp H
        obtain ⟨t617, A120, H⟩ := H
        replace H : (if (((t616 ++ (⟨#[45]⟩ : ByteArray)) ++ ((⟨#[74, 97, 110, 70, 101, 98, 77, 97, 114, 65, 112, 114, 77, 97, 121, 74, 117, 110, 74, 117, 108, 65, 117, 103, 83, 101, 112, 79, 99, 116, 78, 111, 118, 68, 101, 99]⟩ : ByteArray).extract ((ji6) : Int).toNat ((wrap64 (3 * a0_1)) : Int).toNat)) ++ (⟨#[45]⟩ : ByteArray)).size + t617.size ≤ 9223372036854775807 then (some ((((t616 ++ (⟨#[45]⟩ : ByteArray)) ++ ((⟨#[74, 97, 110, 70, 101, 98, 77, 97, 114, 65, 112, 114, 77, 97, 121, 74, 117, 110, 74, 117, 108, 65, 117, 103, 83, 101, 112, 79, 99, 116, 78, 111, 118, 68, 101, 99]⟩ : ByteArray).extract ((ji6) : Int).toNat ((wrap64 (3 * a0_1)) : Int).toNat)) ++ (⟨#[45]⟩ : ByteArray)) ++ t617, 0)) else (none)) = some (r1, r2) := H
        have A12 := Aside0.mk A120
        clear A120
        by_cases c13 : (((t616 ++ (⟨#[45]⟩ : ByteArray)) ++ ((⟨#[74, 97, 110, 70, 101, 98, 77, 97, 114, 65, 112, 114, 77, 97, 121, 74, 117, 110, 74, 117, 108, 65, 117, 103, 83, 101, 112, 79, 99, 116, 78, 111, 118, 68, 101, 99]⟩ : ByteArray).extract ((ji6) : Int).toNat ((wrap64 (3 * a0_1)) : Int).toNat)) ++ (⟨#[45]⟩ : ByteArray)).size + t617.size ≤ 9223372036854775807
        ·rw [if_pos c13] at H
         have c13b0 := eq_true c13
         have c13b1 : decide ((((t616 ++ (⟨#[45]⟩ : ByteArray)) ++ ((⟨#[74, 97, 110, 70, 101, 98, 77, 97, 114, 65, 112, 114, 77, 97, 121, 74, 117, 110, 74, 117, 108, 65, 117, 103, 83, 101, 112, 79, 99, 116, 78, 111, 118, 68, 101, 99]⟩ : ByteArray).extract ((ji6) : Int).toNat ((wrap64 (3 * a0_1)) : Int).toNat)) ++ (⟨#[45]⟩ : ByteArray)).size + t617.size ≤ 9223372036854775807) = true := decide_eq_true c13
         try have c13b2 : (9223372036854775807 < (((t616 ++ (⟨#[45]⟩ : ByteArray)) ++ ((⟨#[74, 97, 110, 70, 101, 98, 77, 97, 114, 65, 112, 114, 77, 97, 121, 74, 117, 110, 74, 117, 108, 65, 117, 103, 83, 101, 112, 79, 99, 116, 78, 111, 118, 68, 101, 99]⟩ : ByteArray).extract ((ji6) : Int).toNat ((wrap64 (3 * a0_1)) : Int).toNat)) ++ (⟨#[45]⟩ : ByteArray)).size + t617.size) = False := eq_false (Nat.not_lt.2 c13)
         try have c13b7 : (9223372036854775807 < t616.size + 1 + ((wrap64 (3 * a0_1)).toNat - (ji6).toNat) + 1 + t617.size) = False := eq_false (by have h_ := c13; have e0_ : (⟨#[45]⟩ : ByteArray).size = 1 := rfl; (try dsimp only at e0_); have e1_ : (⟨#[74, 97, 110, 70, 101, 98, 77, 97, 114, 65, 112, 114, 77, 97, 121, 74, 117, 110, 74, 117, 108, 65, 117, 103, 83, 101, 112, 79, 99, 116, 78, 111, 118, 68, 101, 99]⟩ : ByteArray).size = 36 := rfl; (try dsimp only at e1_); (try have qc8_ := of_decide_eq_true c8b1); (try have qc9_ := of_decide_eq_true c9b1); (try have qc10_ := of_decide_eq_true c10b1); (try have qc11_ := of_decide_eq_true c11b1); (try have qc13_ := of_decide_eq_true c13b1); simp only [ByteArray.size_append, ByteArray.size_extract] at h_; first | exact Nat.not_lt.2 h_ | omega | (simp at h_ ⊢; omega))
         try have c13b3 : (9223372036854775807 < t616.size + (⟨#[45]⟩ : ByteArray).size + ((⟨#[74, 97, 110, 70, 101, 98, 77, 97, 114, 65, 112, 114, 77, 97, 121, 74, 117, 110, 74, 117, 108, 65, 117, 103, 83, 101, 112, 79, 99, 116, 78, 111, 118, 68, 101, 99]⟩ : ByteArray).extract ((ji6) : Int).toNat ((wrap64 (3 * a0_1)) : Int).toNat).size + (⟨#[45]⟩ : ByteArray).size + t617.size) = False := eq_false (by have h_ := c13; simp only [ByteArray.size_append] at h_; omega)
         simp only [Option.some.injEq, Prod.mk.injEq] at H
         obtain ⟨rfl, rfl⟩ := H
         go_enter Tryd.func62, Tryd.ntmps62
         try go_wp2_with (first | ((with_reducible refine gate_dst (N := 1) rfl ?_); refine box_event ?hg (N := 1) ?hd (cs := #[.int .i64 a0_0, .int .i64 a0_1, .int .i64 a0_2, .int .i64 a0_3, .int .i64 a0_4, .int .i64 a0_5, .int .i64 a0_6]) (t := 23) ?hr ?_; (case hd => rfl); (case hg => rfl); (case hr => first | (go_simp; done) | (go_simp; rfl)); intro gb614 hg w14 hbox hb; have n0_ := Aside0.mk (below_step (by repeat (first | (with_reducible first | exact HB.out | apply below_alloc | apply pw_below_drewN | apply below_drew1) | exact HB.out)) hb); have n1_ := Aside0.mk (hbox); have n2_ := Aside0.mk ((by rw [hg]; exact (below_size (by repeat (first | (with_reducible first | exact HB.out | apply below_alloc | apply pw_below_drewN | apply below_drew1) | exact HB.out))) : w.heap.size ≤ gb614)); have n3_ := Aside0.mk ((by rw [hg]; exact (below_size (by repeat (first | (with_reducible first | exact HB.out | apply below_alloc | apply pw_below_drewN | apply below_drew1) | exact HB.out))) : w.heap.size ≤ gb614)); clear HB; have HB := n0_; have BK614 := n1_; have GW614 := n2_; have GE614 := n3_; clear n0_ n1_ n2_ n3_; clear hb hbox hg; have hcz15_0 : w14.cell? ⟨gb614, 0, none⟩ = some (.int .i64 a0_0) := (blk_cell BK614.out 0).trans rfl; have hcz15_1 : w14.cell? ⟨gb614, 1, none⟩ = some (.int .i64 a0_1) := (blk_cell BK614.out 1).trans rfl; have hcz15_2 : w14.cell? ⟨gb614, 2, none⟩ = some (.int .i64 a0_2) := (blk_cell BK614.out 2).trans rfl; have hcz15_3 : w14.cell? ⟨gb614, 3, none⟩ = some (.int .i64 a0_3) := (blk_cell BK614.out 3).trans rfl; have hcz15_4 : w14.cell? ⟨gb614, 4, none⟩ = some (.int .i64 a0_4) := (blk_cell BK614.out 4).trans rfl; have hcz15_5 : w14.cell? ⟨gb614, 5, none⟩ = some (.int .i64 a0_5) := (blk_cell BK614.out 5).trans rfl; have hcz15_6 : w14.cell? ⟨gb614, 6, none⟩ = some (.int .i64 a0_6) := (blk_cell BK614.out 6).trans rfl; have hfz15_0 := blk_frozen BK614.out 0; have hfz15_1 := blk_frozen BK614.out 1; have hfz15_2 := blk_frozen BK614.out 2; have hfz15_3 := blk_frozen BK614.out 3; have hfz15_4 := blk_frozen BK614.out 4; have hfz15_5 := blk_frozen BK614.out 5; have hfz15_6 := blk_frozen BK614.out 6) | ((with_reducible refine gate_callee (f := 81) rfl ?_); refine goesL_ (some 5) rfl rfl Tryd.func81 (by kernel_rfl) rfl #[.agg #[.int .i64 a0_0, .int .i64 a0_1, .int .i64 a0_2, .int .i64 a0_3, .int .i64 a0_4, .int .i64 a0_5, .int .i64 a0_6]] rfl (by (try simp only [List.map_toArray, List.map_cons, List.map_nil]); first | done | rfl | (simp only [List.length_drop, List.length_take]; rfl)) ?_; (with_reducible refine (postbagref2_IsDay.calls k a0_0 a0_1 a0_2 a0_3 a0_4 a0_5 a0_6 true _ A2.out).mono ?_); rintro e w16 ⟨rfl, hb⟩; refine ⟨_, rfl, ?_⟩; have n0_ := Aside0.mk (blk_below (g := gb614) (o := .cells #[.int .i64 a0_0, .int .i64 a0_1, .int .i64 a0_2, .int .i64 a0_3, .int .i64 a0_4, .int .i64 a0_5, .int .i64 a0_6] 23 (0, 0)) (by (with_reducible repeat (first | refine blk_drewN ?_ _ | refine blk_drew ?_ | refine blk_alloc ?_ _)); exact BK614.out) hb); have n1_ := Aside0.mk (below_step (by repeat (first | (with_reducible first | exact HB.out | apply below_alloc | apply pw_below_drewN | apply below_drew1 | refine below_set ?_ GE614.out) | exact HB.out)) hb); clear BK614; clear HB; have BK614 := n0_; have HB := n1_; clear n0_ n1_; (try clear hb); (try clear hb2); (try clear hk); (try clear hi)))
         have n0_ := Aside0.mk (blk_drew BK614.out)
         have n1_ := Aside0.mk (below_drew1 HB.out)
         clear BK614
         clear HB
         have BK614 := n0_
         have HB := n1_
         clear n0_ n1_
         refine start_ (n := 20) (S := fun w' => w'.cell? ⟨gb614, 0, none⟩ = some (.int .i64 a0_0) ∧ w'.cell? ⟨gb614, 1, none⟩ = some (.int .i64 a0_1) ∧ w'.cell? ⟨gb614, 2, none⟩ = some (.int .i64 a0_2) ∧ w'.cell? ⟨gb614, 3, none⟩ = some (.int .i64 a0_3) ∧ w'.cell? ⟨gb614, 4, none⟩ = some (.int .i64 a0_4) ∧ w'.cell? ⟨gb614, 5, none⟩ = some (.int .i64 a0_5) ∧ w'.cell? ⟨gb614, 6, none⟩ = some (.int .i64 a0_6)) (ds := []) (bs_ 0 20) (by kernel_rfl) rfl rfl ⟨(blk_cell BK614.out 0).trans rfl, (blk_cell BK614.out 1).trans rfl, (blk_cell BK614.out 2).trans rfl, (blk_cell BK614.out 3).trans rfl, (blk_cell BK614.out 4).trans rfl, (blk_cell BK614.out 5).trans rfl, (blk_cell BK614.out 6).trans rfl⟩ (fun hHeld => ?_); refine with_tabW postbagref2_PrintDay.tab3 postbagref2_PrintDay.bits3 (fun HT_ HW_ => ?_)
         generalize w16.drew = w17 at BK614 HB hHeld ⊢
         refine pu_ 0 (some 7) ?_ (bs_ 1 19) rfl rfl (any_of HT_.out (by kernel_rfl)) (fun _ _ _ h => h) (y_ (by rfl) ?_) ?_ ?_ ?_
         rotate_left
         ·intro w'
          go_simp
          with_reducible rfl
         rotate_left
         ·simp only [Act.put, s1_, s2_, s3_, i64_w, i32_w]
          rfl
         refine pu_ 4 (some 11) ?_ #[true, false, false, false, true, false, false, false, false, false, false, false, false, false, false, false, false, false, false, false] rfl rfl (any_of HT_.out (by kernel_rfl)) (fun _ _ _ h => h) (y_ (by rfl) ?_) ?_ ?_ ?_
         rotate_left
         ·intro w'
          go_simp
          with_reducible rfl
         rotate_left
         ·simp only [Act.put, s1_, s2_, s3_, i64_w, i32_w]
          rfl
         refine pu_ 8 (some 15) ?_ #[true, false, false, false, true, false, false, false, true, false, false, false, false, false, false, false, false, false, false, false] rfl rfl (any_of HT_.out (by kernel_rfl)) (fun _ _ _ h => h) (y_ (by rfl) ?_) ?_ ?_ ?_
         rotate_left
         ·intro w'
          go_simp
          with_reducible rfl
         rotate_left
         ·simp only [Act.put, s1_, s2_, s3_, i64_w, i32_w]
          rfl
         refine pu_ 14 (some 21) ?_ #[true, false, false, false, true, false, false, false, true, false, false, false, false, false, true, false, false, false, false, false] rfl rfl (any_of HT_.out (by kernel_rfl)) (fun _ _ _ h => h) (y_ (by rfl) ?_) ?_ ?_ ?_
         rotate_left
         ·intro w'
          go_simp
          with_reducible rfl
         rotate_left
         ·simp only [Act.put, s1_, s2_, s3_, i64_w, i32_w]
          rfl
         refine take_ (i := 1) (N := some 8) (v := ?_) (a' := ?_) #[true, true, false, false, true, false, false, false, true, false, false, false, false, false, true, false, false, false, false, false] rfl rfl (take_ofW HT_.out HW_.out (by kernel_rfl)) (fun _ _ _ h => h) (Or.inl ⟨by rfl, ?_⟩) hHeld ?_ ?_
         rotate_left
         ·rintro w' ⟨s0, s1, s2, s3, s4, s5, s6⟩
          go_simp
          with_reducible rfl
         rotate_left
         ·simp only [Act.put, s1_, s2_, s3_, i64_w, i32_w]
          rfl
         refine take_ (i := 5) (N := some 12) (v := ?_) (a' := ?_) #[true, true, false, false, true, true, false, false, true, false, false, false, false, false, true, false, false, false, false, false] rfl rfl (take_ofW HT_.out HW_.out (by kernel_rfl)) (fun _ _ _ h => h) (Or.inl ⟨by rfl, ?_⟩) hHeld ?_ ?_
         rotate_left
         ·rintro w' ⟨s0, s1, s2, s3, s4, s5, s6⟩
          go_simp
          with_reducible rfl
         rotate_left
         ·simp only [Act.put, s1_, s2_, s3_, i64_w, i32_w]
          rfl
         refine pu_ 6 (some 13) ?_ #[true, true, false, false, true, true, true, false, true, false, false, false, false, false, true, false, false, false, false, false] rfl rfl (any_of HT_.out (by kernel_rfl)) (fun _ _ _ h => h) (y_ (by rfl) ?_) ?_ ?_ ?_
         rotate_left
         ·intro w'
          go_simp
          with_reducible rfl
         rotate_left
         ·simp only [Act.put, s1_, s2_, s3_, i64_w, i32_w]
          rfl
         refine pu_ 7 (some 14) ?_ #[true, true, false, false, true, true, true, true, true, false, false, false, false, false, true, false, false, false, false, false] rfl rfl (any_of HT_.out (by kernel_rfl)) (fun _ _ _ h => h) (y_ (by rfl) ?_) ?_ ?_ ?_
         rotate_left
         ·intro w'
          go_simp
          with_reducible rfl
         rotate_left
         ·simp only [Act.put, s1_, s2_, s3_, i64_w, i32_w]
          rfl
         refine take_ (i := 9) (N := some 16) (v := ?_) (a' := ?_) #[true, true, false, false, true, true, true, true, true, true, false, false, false, false, true, false, false, false, false, false] rfl rfl (take_ofW HT_.out HW_.out (by kernel_rfl)) (fun _ _ _ h => h) (Or.inl ⟨by rfl, ?_⟩) hHeld ?_ ?_
         rotate_left
         ·rintro w' ⟨s0, s1, s2, s3, s4, s5, s6⟩
          go_simp
          with_reducible rfl
         rotate_left
         ·simp only [Act.put, s1_, s2_, s3_, i64_w, i32_w]
          rfl
         refine pu_ 10 (some 17) ?_ #[true, true, false, false, true, true, true, true, true, true, true, false, false, false, true, false, false, false, false, false] rfl rfl (any_of HT_.out (by kernel_rfl)) (fun _ _ _ h => h) (y_ (by rfl) ?_) ?_ ?_ ?_
         rotate_left
         ·intro w'
          go_simp
          with_reducible rfl
         rotate_left
         ·simp only [Act.put, s1_, s2_, s3_, i64_w, i32_w]
          rfl
         refine pu_ 11 (some 18) ?_ #[true, true, false, false, true, true, true, true, true, true, true, true, false, false, true, false, false, false, false, false] rfl rfl (any_of HT_.out (by kernel_rfl)) (fun _ _ _ h => h) (y_ (by rfl) ?_) ?_ ?_ ?_
         rotate_left
         ·intro w'
          go_simp
          with_reducible rfl
         rotate_left
         ·simp only [Act.put, s1_, s2_, s3_, i64_w, i32_w]
          rfl
         refine take_ (i := 15) (N := some 22) (v := ?_) (a' := ?_) #[true, true, false, false, true, true, true, true, true, true, true, true, false, false, true, true, false, false, false, false] rfl rfl (take_ofW HT_.out HW_.out (by kernel_rfl)) (fun _ _ _ h => h) (Or.inl ⟨by rfl, ?_⟩) hHeld ?_ ?_
         rotate_left
         ·rintro w' ⟨s0, s1, s2, s3, s4, s5, s6⟩
          go_simp
          with_reducible rfl
         rotate_left
         ·simp only [Act.put, s1_, s2_, s3_, i64_w, i32_w]
          rfl
         refine one_ (i := 2) (N := some 9) #[true, true, true, false, true, true, true, true, true, true, true, true, false, false, true, true, false, false, false, false] rfl rfl (one_of HT_.out (by kernel_rfl)) (by decide) (fun K hK => ?_)
         refine goes_ Tryd.func79 (by kernel_rfl) rfl #[.int .i64 a0_2, .int .i64 1] (by rfl) rfl rfl (by (try simp only [List.map_toArray, List.map_cons, List.map_nil]); first | done | rfl | (simp only [List.length_drop, List.length_take]; rfl)) ?_
         with_reducible refine (postbagref2_text.calls k a0_2 1 t616 _ A4.out).mono ?_
         rintro e w18 ⟨rfl, hb⟩
         refine ⟨_, rfl, ?_⟩
         have n0_ := Aside0.mk (blk_below (g := gb614) (o := .cells #[.int .i64 a0_0, .int .i64 a0_1, .int .i64 a0_2, .int .i64 a0_3, .int .i64 a0_4, .int .i64 a0_5, .int .i64 a0_6] 23 (0, 0)) (by (with_reducible repeat (first | refine blk_drewN ?_ _ | refine blk_drew ?_ | refine blk_alloc ?_ _)); exact BK614.out) hb)
         have n1_ := Aside0.mk (below_step (by repeat (first | (with_reducible first | exact HB.out | apply below_alloc | apply pw_below_drewN | apply below_drew1 | refine below_set ?_ GE614.out) | exact HB.out)) hb)
         clear BK614
         clear HB
         have BK614 := n0_
         have HB := n1_
         clear n0_ n1_
         (try clear hb)
         (try clear hb2)
         (try clear hk)
         (try clear hi)
         refine hK.out _ _ ⟨(blk_cell BK614.out 0).trans rfl, (blk_cell BK614.out 1).trans rfl, (blk_cell BK614.out 2).trans rfl, (blk_cell BK614.out 3).trans rfl, (blk_cell BK614.out 4).trans rfl, (blk_cell BK614.out 5).trans rfl, (blk_cell BK614.out 6).trans rfl⟩ (fun hHeld => ?_)
         clear hK K
         refine norm_ (a' := ?_) ?_ ?_
         rotate_left
         ·show Act.put _ (some 9) _ = _
          simp only [Act.put, s1_, s2_, s3_, i64_w, i32_w]
          rfl
         refine pu_ 3 (some 10) ?_ #[true, true, true, true, true, true, true, true, true, true, true, true, false, false, true, true, false, false, false, false] rfl rfl (any_of HT_.out (by kernel_rfl)) (fun _ _ _ h => h) (y_ (by rfl) ?_) ?_ ?_ ?_
         rotate_left
         ·intro w'
          go_simp
          with_reducible rfl
         rotate_left
         ·simp only [Act.put, s1_, s2_, s3_, i64_w, i32_w]
          rfl
         refine pu_ 12 (some 19) ?_ #[true, true, true, true, true, true, true, true, true, true, true, true, true, false, true, true, false, false, false, false] rfl rfl (any_of HT_.out (by kernel_rfl)) (fun _ _ _ h => h) (y_ (by rfl) ?_) ?_ ?_ ?_
         rotate_left
         ·intro w'
          go_simp
          with_reducible rfl
         rotate_left
         ·simp only [Act.put, s1_, s2_, s3_, i64_w, i32_w]
          rfl
         refine pu_ 13 (some 20) ?_ (bs_ 16 4) rfl rfl (any_of HT_.out (by kernel_rfl)) (fun _ _ _ h => h) (y_ (by rfl) ?_) ?_ ?_ ?_
         rotate_left
         ·intro w'
          go_simp
          with_reducible rfl
         rotate_left
         ·simp only [Act.put, s1_, s2_, s3_, i64_w, i32_w]
          rfl
         refine one_ (i := 16) (N := some 23) (bs_ 17 3) rfl rfl (one_of HT_.out (by kernel_rfl)) (by decide) (fun K hK => ?_)
         refine goes_ Tryd.func79 (by kernel_rfl) rfl #[.int .i64 a0_0, .int .i64 4] (by rfl) rfl rfl (by (try simp only [List.map_toArray, List.map_cons, List.map_nil]); first | done | rfl | (simp only [List.length_drop, List.length_take]; rfl)) ?_
         with_reducible refine (postbagref2_text.calls k a0_0 4 t617 _ A12.out).mono ?_
         rintro e w19 ⟨rfl, hb⟩
         refine ⟨_, rfl, ?_⟩
         have n0_ := Aside0.mk (blk_below (g := gb614) (o := .cells #[.int .i64 a0_0, .int .i64 a0_1, .int .i64 a0_2, .int .i64 a0_3, .int .i64 a0_4, .int .i64 a0_5, .int .i64 a0_6] 23 (0, 0)) (by (with_reducible repeat (first | refine blk_drewN ?_ _ | refine blk_drew ?_ | refine blk_alloc ?_ _)); exact BK614.out) hb)
         have n1_ := Aside0.mk (below_step (by repeat (first | (with_reducible first | exact HB.out | apply below_alloc | apply pw_below_drewN | apply below_drew1 | refine below_set ?_ GE614.out) | exact HB.out)) hb)
         clear BK614
         clear HB
         have BK614 := n0_
         have HB := n1_
         clear n0_ n1_
         (try clear hb)
         (try clear hb2)
         (try clear hk)
         (try clear hi)
         refine hK.out _ _ ⟨(blk_cell BK614.out 0).trans rfl, (blk_cell BK614.out 1).trans rfl, (blk_cell BK614.out 2).trans rfl, (blk_cell BK614.out 3).trans rfl, (blk_cell BK614.out 4).trans rfl, (blk_cell BK614.out 5).trans rfl, (blk_cell BK614.out 6).trans rfl⟩ (fun hHeld => ?_)
         clear hK K
         refine norm_ (a' := ?_) ?_ ?_
         rotate_left
         ·show Act.put _ (some 23) _ = _
          simp only [Act.put, s1_, s2_, s3_, i64_w, i32_w]
          rfl
         refine pu_ 17 (some 24) ?_ (bs_ 18 2) rfl rfl (any_of HT_.out (by kernel_rfl)) (fun _ _ _ h => h) (y_ (by rfl) ?_) ?_ ?_ ?_
         rotate_left
         ·intro w'
          go_simp
          with_reducible rfl
         rotate_left
         ·simp only [Act.put, s1_, s2_, s3_, i64_w, i32_w]
          rfl
         refine pu_ 18 (some 2) ?_ (bs_ 19 1) rfl rfl (any_of HT_.out (by kernel_rfl)) (fun _ _ _ h => h) (y_ (by rfl) ?_) ?_ ?_ ?_
         rotate_left
         ·intro w'
          go_simp
          with_reducible rfl
         rotate_left
         ·simp only [Act.put, s1_, s2_, s3_, i64_w, i32_w]
          rfl
         refine pu_ 19 (some 3) ?_ (bs_ 20 0) rfl rfl (any_of HT_.out (by kernel_rfl)) (fun _ _ _ h => h) (y_ (by rfl) ?_) ?_ ?_ ?_
         rotate_left
         ·intro w'
          go_simp
          with_reducible rfl
         rotate_left
         ·simp only [Act.put, s1_, s2_, s3_, i64_w, i32_w]
          rfl
         refine done_ (done_of HT_.out (by kernel_rfl)) ?_
         try go_wp2
         go_ret2
         exact ⟨by first | rfl | (simp [errW_none, errW_some] <;> rfl) | (simp only [← hji6]; first | rfl | (simp [errW_none, errW_some] <;> rfl)) | (simp [*, errW_none, errW_some] <;> rfl), by repeat (first | (with_reducible first | exact HB.out | apply below_alloc | apply pw_below_drewN | apply below_drew1 | refine below_set ?_ GE614.out) | exact HB.out)⟩
        ·rw [if_neg c13] at H
         exact absurd H (by simp)
       ·rw [if_neg c11] at H
        exact absurd H (by simp)
      ·rw [if_neg c10] at H
       exact absurd H (by simp)
     ·rw [if_neg c9] at H
      exact absurd H (by simp)
    ·rw [if_neg c8] at H
     exact absurd H (by simp)
   ·rw [if_neg c7] at H
    exact absurd H (by simp)
  ·rw [if_neg c5] at H
   exact absurd H (by simp)
 ·replace c3 := Bool.eq_false_iff.mpr c3
  subst c3
  have H1 : (some ((⟨#[]⟩ : ByteArray), 21)) = some (r1, r2) := by rw [if_neg (show ¬ (false = true) by decide)] at H; exact H
  clear H
  have H := H1
  clear H1
  simp only [Option.some.injEq, Prod.mk.injEq] at H
  obtain ⟨rfl, rfl⟩ := H
  go_enter Tryd.func62, Tryd.ntmps62
  go_wp2_with (first | ((with_reducible refine gate_dst (N := 1) rfl ?_); refine box_event ?hg (N := 1) ?hd (cs := #[.int .i64 a0_0, .int .i64 a0_1, .int .i64 a0_2, .int .i64 a0_3, .int .i64 a0_4, .int .i64 a0_5, .int .i64 a0_6]) (t := 23) ?hr ?_; (case hd => rfl); (case hg => rfl); (case hr => first | (go_simp; done) | (go_simp; rfl)); intro gb614 hg w20 hbox hb; have n0_ := Aside0.mk (below_step (by repeat (first | (with_reducible first | exact HB.out | apply below_alloc | apply pw_below_drewN | apply below_drew1) | exact HB.out)) hb); have n1_ := Aside0.mk (hbox); have n2_ := Aside0.mk ((by rw [hg]; exact (below_size (by repeat (first | (with_reducible first | exact HB.out | apply below_alloc | apply pw_below_drewN | apply below_drew1) | exact HB.out))) : w.heap.size ≤ gb614)); have n3_ := Aside0.mk ((by rw [hg]; exact (below_size (by repeat (first | (with_reducible first | exact HB.out | apply below_alloc | apply pw_below_drewN | apply below_drew1) | exact HB.out))) : w.heap.size ≤ gb614)); clear HB; have HB := n0_; have BK614 := n1_; have GW614 := n2_; have GE614 := n3_; clear n0_ n1_ n2_ n3_; clear hb hbox hg; have hcz21_0 : w20.cell? ⟨gb614, 0, none⟩ = some (.int .i64 a0_0) := (blk_cell BK614.out 0).trans rfl; have hcz21_1 : w20.cell? ⟨gb614, 1, none⟩ = some (.int .i64 a0_1) := (blk_cell BK614.out 1).trans rfl; have hcz21_2 : w20.cell? ⟨gb614, 2, none⟩ = some (.int .i64 a0_2) := (blk_cell BK614.out 2).trans rfl; have hcz21_3 : w20.cell? ⟨gb614, 3, none⟩ = some (.int .i64 a0_3) := (blk_cell BK614.out 3).trans rfl; have hcz21_4 : w20.cell? ⟨gb614, 4, none⟩ = some (.int .i64 a0_4) := (blk_cell BK614.out 4).trans rfl; have hcz21_5 : w20.cell? ⟨gb614, 5, none⟩ = some (.int .i64 a0_5) := (blk_cell BK614.out 5).trans rfl; have hcz21_6 : w20.cell? ⟨gb614, 6, none⟩ = some (.int .i64 a0_6) := (blk_cell BK614.out 6).trans rfl; have hfz21_0 := blk_frozen BK614.out 0; have hfz21_1 := blk_frozen BK614.out 1; have hfz21_2 := blk_frozen BK614.out 2; have hfz21_3 := blk_frozen BK614.out 3; have hfz21_4 := blk_frozen BK614.out 4; have hfz21_5 := blk_frozen BK614.out 5; have hfz21_6 := blk_frozen BK614.out 6) | ((with_reducible refine gate_callee (f := 81) rfl ?_); refine goesL_ (some 5) rfl rfl Tryd.func81 (by kernel_rfl) rfl #[.agg #[.int .i64 a0_0, .int .i64 a0_1, .int .i64 a0_2, .int .i64 a0_3, .int .i64 a0_4, .int .i64 a0_5, .int .i64 a0_6]] rfl (by (try simp only [List.map_toArray, List.map_cons, List.map_nil]); first | done | rfl | (simp only [List.length_drop, List.length_take]; rfl)) ?_; (with_reducible refine (postbagref2_IsDay.calls k a0_0 a0_1 a0_2 a0_3 a0_4 a0_5 a0_6 false _ A2.out).mono ?_); rintro e w22 ⟨rfl, hb⟩; refine ⟨_, rfl, ?_⟩; have n0_ := Aside0.mk (blk_below (g := gb614) (o := .cells #[.int .i64 a0_0, .int .i64 a0_1, .int .i64 a0_2, .int .i64 a0_3, .int .i64 a0_4, .int .i64 a0_5, .int .i64 a0_6] 23 (0, 0)) (by (with_reducible repeat (first | refine blk_drewN ?_ _ | refine blk_drew ?_ | refine blk_alloc ?_ _)); exact BK614.out) hb); have n1_ := Aside0.mk (below_step (by repeat (first | (with_reducible first | exact HB.out | apply below_alloc | apply pw_below_drewN | apply below_drew1 | refine below_set ?_ GE614.out) | exact HB.out)) hb); clear BK614; clear HB; have BK614 := n0_; have HB := n1_; clear n0_ n1_; (try clear hb); (try clear hb2); (try clear hk); (try clear hi)))
  go_ret2
  exact ⟨by first | rfl | (simp [errW_none, errW_some] <;> rfl) | (simp [*, errW_none, errW_some] <;> rfl), by repeat (first | (with_reducible first | exact HB.out | apply below_alloc | apply pw_below_drewN | apply below_drew1 | refine below_set ?_ GE614.out) | exact HB.out)⟩
end Go.Proofs.YtjlchnmpebdggaaDoor.Mo
end
