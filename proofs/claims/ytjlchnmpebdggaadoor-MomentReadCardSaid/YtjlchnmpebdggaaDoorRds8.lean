import Derived.Test.YtjlchnmpebdggaaDoorRds1
import Derived.Test.YtjlchnmpebdggaaDoorRds2
import Derived.Test.YtjlchnmpebdggaaDoorRds3
import Derived.Test.YtjlchnmpebdggaaDoorRds7
import Derived.Test.YtjlchnmpebdggaaDoorRds5
import Derived.Test.YtjlchnmpebdggaaDoorRows
import Derived.ProofKit
import Derived.LaidMore
import Derived.OpenShut
import Derived.Stop.Joined
section
-- PRINTED by a driver of print.py
namespace Go.Proofs.YtjlchnmpebdggaaDoor.Mo
open Go.RowKit Go.Proofs.YtjlchnmpebdggaaDoorW.PrintWords Go.Proofs.YtjlchnmpebdggaaDoorW.PrintLast Go.Proofs.YtjlchnmpebdggaaDoorW.PrintMore
attribute [local go_sem] max2_int min2_int max_two min_two max_three min_three max_four min_four   -- for this text's walks alone
set_option linter.unusedVariables false
set_option linter.unusedSimpArgs false
def moment_PrintDay.f (a0_0 : Int) (a0_1 : Int) (a0_2 : Int) (a0_3 : Int) (a0_4 : Int) (a0_5 : Int) (a0_6 : Int) : Option (ByteArray × Int) := (moment_isDay.f a0_0 a0_1 a0_2 a0_3 a0_4 a0_5 a0_6).bind fun t469 => (if t469 = true then ((moment_plain.f a0_2).bind fun t470 => ((moment_dashed.f a0_0 a0_1 a0_2 a0_3 a0_4 a0_5 a0_6).bind fun t471 => (if t470.size + t471.size ≤ 9223372036854775807 then (some (t470 ++ t471, 0)) else (none)))) else (some ((⟨#[]⟩ : ByteArray), 21)))
def moment_PrintDay.T3 : Bool × List (List Nat × List Nat) := (true, [([], []), ([0], [0]), ([1], [1]), ([], []), ([3, 2], [3]), ([2, 4], [2, 4]), ([5, 4, 0, 1, 2, 3, 4, 5], [5]), ([6, 0, 1, 2, 3, 4, 5, 6], [])])
def moment_PrintDay.B3 : List Nat := [0, 1, 3, 0, 15, 31, 63, 127]
theorem moment_PrintDay.tab3 : rtab .any (opsOf Tryd.f24 3) = moment_PrintDay.T3 := by kernel_rfl
theorem moment_PrintDay.bits3 : waitsOk moment_PrintDay.T3.2 moment_PrintDay.B3 = true := by kernel_rfl
set_option maxHeartbeats 8000000 in
set_option maxRecDepth 100000 in
theorem moment_PrintDay.calls (a0_0 : Int) (a0_1 : Int) (a0_2 : Int) (a0_3 : Int) (a0_4 : Int) (a0_5 : Int) (a0_6 : Int) (r1 : ByteArray) (r2 : Int) (w : World) (h : moment_PrintDay.f a0_0 a0_1 a0_2 a0_3 a0_4 a0_5 a0_6 = some (r1, r2)) (hL_ : Laid w) :
  Calls Tryd.prog 24 #[.agg #[.int .i64 a0_0, .int .i64 a0_1, .int .i64 a0_2, .int .i64 a0_3, .int .i64 a0_4, .int .i64 a0_5, .int .i64 a0_6]] w fun e w' => e = .returned (.tuple #[.string r1, .int .i64 r2]) ∧ Below w.heap.size w w' := by
 have HL_ := Aside0.mk hL_
 clear hL_
 have hu23 := Tryd.underlying23
 have HB := Aside0.mk (Below.refl w.heap.size w)
 have H : ((moment_isDay.f a0_0 a0_1 a0_2 a0_3 a0_4 a0_5 a0_6).bind fun t469 => (if t469 = true then ((moment_plain.f a0_2).bind fun t470 => ((moment_dashed.f a0_0 a0_1 a0_2 a0_3 a0_4 a0_5 a0_6).bind fun t471 => (if t470.size + t471.size ≤ 9223372036854775807 then (some (t470 ++ t471, 0)) else (none)))) else (some ((⟨#[]⟩ : ByteArray), 21)))) = some (r1, r2) := h
 clear h
 replace H := Option.bind_eq_some_iff.mp H
 obtain ⟨t469, A20, H⟩ := H
 replace H : (if t469 = true then ((moment_plain.f a0_2).bind fun t470 => ((moment_dashed.f a0_0 a0_1 a0_2 a0_3 a0_4 a0_5 a0_6).bind fun t471 => (if t470.size + t471.size ≤ 9223372036854775807 then (some (t470 ++ t471, 0)) else (none)))) else (some ((⟨#[]⟩ : ByteArray), 21))) = some (r1, r2) := H
 have A2 := Aside0.mk A20
 clear A20
 by_cases c3 : t469 = true
 ·subst c3
  have H1 : ((moment_plain.f a0_2).bind fun t470 => ((moment_dashed.f a0_0 a0_1 a0_2 a0_3 a0_4 a0_5 a0_6).bind fun t471 => (if t470.size + t471.size ≤ 9223372036854775807 then (some (t470 ++ t471, 0)) else (none)))) = some (r1, r2) := by rw [if_pos rfl] at H; exact H
  clear H
  have H := H1
  clear H1
  replace H := Option.bind_eq_some_iff.mp H
  obtain ⟨t470, A40, H⟩ := H
  replace H : ((moment_dashed.f a0_0 a0_1 a0_2 a0_3 a0_4 a0_5 a0_6).bind fun t471 => (if t470.size + t471.size ≤ 9223372036854775807 then (some (t470 ++ t471, 0)) else (none))) = some (r1, r2) := H
  have A4 := Aside0.mk A40
  clear A40
  replace H := Option.bind_eq_some_iff.mp H
  obtain ⟨t471, A50, H⟩ := H
  replace H : (if t470.size + t471.size ≤ 9223372036854775807 then (some (t470 ++ t471, 0)) else (none)) = some (r1, r2) := H
  have A5 := Aside0.mk A50
  clear A50
  by_cases c6 : t470.size + t471.size ≤ 9223372036854775807
  ·rw [if_pos c6] at H
   have c6b0 := eq_true c6
   have c6b1 : decide (t470.size + t471.size ≤ 9223372036854775807) = true := decide_eq_true c6
   try have c6b2 : (9223372036854775807 < t470.size + t471.size) = False := eq_false (Nat.not_lt.2 c6)
   simp only [Option.some.injEq, Prod.mk.injEq] at H
   obtain ⟨rfl, rfl⟩ := H
   go_enter Tryd.func24, Tryd.ntmps24
   try go_wp2_with (first | ((with_reducible refine gate_dst (N := 1) rfl ?_); refine box_event ?hg (N := 1) ?hd (cs := #[.int .i64 a0_0, .int .i64 a0_1, .int .i64 a0_2, .int .i64 a0_3, .int .i64 a0_4, .int .i64 a0_5, .int .i64 a0_6]) (t := 23) ?hr ?_; (case hd => rfl); (case hg => rfl); (case hr => first | (go_simp; done) | (go_simp; rfl)); intro gb468 hg w7 hbox hb; have n0_ := Aside0.mk (below_step (by repeat (first | (with_reducible first | exact HB.out | apply below_alloc | apply pw_below_drewN | apply below_drew1) | exact HB.out)) hb); have n1_ := Aside0.mk (hbox); have n2_ := Aside0.mk ((by rw [hg]; exact (below_size (by repeat (first | (with_reducible first | exact HB.out | apply below_alloc | apply pw_below_drewN | apply below_drew1) | exact HB.out))) : w.heap.size ≤ gb468)); have n3_ := Aside0.mk ((by rw [hg]; exact (below_size (by repeat (first | (with_reducible first | exact HB.out | apply below_alloc | apply pw_below_drewN | apply below_drew1) | exact HB.out))) : w.heap.size ≤ gb468)); clear HB; have HB := n0_; have BK468 := n1_; have GW468 := n2_; have GE468 := n3_; clear n0_ n1_ n2_ n3_; clear hb hbox hg; have hcz8_0 : w7.cell? ⟨gb468, 0, none⟩ = some (.int .i64 a0_0) := (blk_cell BK468.out 0).trans rfl; have hcz8_1 : w7.cell? ⟨gb468, 1, none⟩ = some (.int .i64 a0_1) := (blk_cell BK468.out 1).trans rfl; have hcz8_2 : w7.cell? ⟨gb468, 2, none⟩ = some (.int .i64 a0_2) := (blk_cell BK468.out 2).trans rfl; have hcz8_3 : w7.cell? ⟨gb468, 3, none⟩ = some (.int .i64 a0_3) := (blk_cell BK468.out 3).trans rfl; have hcz8_4 : w7.cell? ⟨gb468, 4, none⟩ = some (.int .i64 a0_4) := (blk_cell BK468.out 4).trans rfl; have hcz8_5 : w7.cell? ⟨gb468, 5, none⟩ = some (.int .i64 a0_5) := (blk_cell BK468.out 5).trans rfl; have hcz8_6 : w7.cell? ⟨gb468, 6, none⟩ = some (.int .i64 a0_6) := (blk_cell BK468.out 6).trans rfl; have hfz8_0 := blk_frozen BK468.out 0; have hfz8_1 := blk_frozen BK468.out 1; have hfz8_2 := blk_frozen BK468.out 2; have hfz8_3 := blk_frozen BK468.out 3; have hfz8_4 := blk_frozen BK468.out 4; have hfz8_5 := blk_frozen BK468.out 5; have hfz8_6 := blk_frozen BK468.out 6) | ((with_reducible refine gate_callee (f := 46) rfl ?_); refine goesL_ (some 5) rfl rfl Tryd.func46 (by kernel_rfl) rfl #[.agg #[.int .i64 a0_0, .int .i64 a0_1, .int .i64 a0_2, .int .i64 a0_3, .int .i64 a0_4, .int .i64 a0_5, .int .i64 a0_6]] rfl (by (try simp only [List.map_toArray, List.map_cons, List.map_nil]); first | done | rfl | (simp only [List.length_drop, List.length_take]; rfl)) ?_; (with_reducible refine (moment_isDay.calls a0_0 a0_1 a0_2 a0_3 a0_4 a0_5 a0_6 true _ A2.out (by first | exact laid_below HL_.out (by repeat (first | (with_reducible first | exact HB.out | apply below_alloc | apply pw_below_drewN | apply below_drew1) | exact HB.out)) | exact laid_drawn HL_.out (by repeat (first | exact Drawn0.refl _ | apply Drawn0.step)))).mono ?_); rintro e w9 ⟨rfl, hb⟩; refine ⟨_, rfl, ?_⟩; have n0_ := Aside0.mk (blk_below (g := gb468) (o := .cells #[.int .i64 a0_0, .int .i64 a0_1, .int .i64 a0_2, .int .i64 a0_3, .int .i64 a0_4, .int .i64 a0_5, .int .i64 a0_6] 23 (0, 0)) (by (with_reducible repeat (first | refine blk_drewN ?_ _ | refine blk_drew ?_ | refine blk_alloc ?_ _)); exact BK468.out) hb); have n1_ := Aside0.mk (below_step (by repeat (first | (with_reducible first | exact HB.out | apply below_alloc | apply pw_below_drewN | apply below_drew1 | refine below_set ?_ GE468.out) | exact HB.out)) hb); clear BK468; clear HB; have BK468 := n0_; have HB := n1_; clear n0_ n1_; (try clear hb); (try clear hb2); (try clear hk); (try clear hi)))
   have n0_ := Aside0.mk (blk_drew BK468.out)
   have n1_ := Aside0.mk (below_drew1 HB.out)
   clear BK468
   clear HB
   have BK468 := n0_
   have HB := n1_
   clear n0_ n1_
   refine start_ (n := 8) (S := fun w' => w'.cell? ⟨gb468, 0, none⟩ = some (.int .i64 a0_0) ∧ w'.cell? ⟨gb468, 1, none⟩ = some (.int .i64 a0_1) ∧ w'.cell? ⟨gb468, 2, none⟩ = some (.int .i64 a0_2) ∧ w'.cell? ⟨gb468, 3, none⟩ = some (.int .i64 a0_3) ∧ w'.cell? ⟨gb468, 4, none⟩ = some (.int .i64 a0_4) ∧ w'.cell? ⟨gb468, 5, none⟩ = some (.int .i64 a0_5) ∧ w'.cell? ⟨gb468, 6, none⟩ = some (.int .i64 a0_6)) (ds := []) (bs_ 0 8) (by kernel_rfl) rfl rfl ⟨(blk_cell BK468.out 0).trans rfl, (blk_cell BK468.out 1).trans rfl, (blk_cell BK468.out 2).trans rfl, (blk_cell BK468.out 3).trans rfl, (blk_cell BK468.out 4).trans rfl, (blk_cell BK468.out 5).trans rfl, (blk_cell BK468.out 6).trans rfl⟩ (fun hHeld => ?_); refine with_tabW moment_PrintDay.tab3 moment_PrintDay.bits3 (fun HT_ HW_ => ?_)
   generalize w9.drew = w10 at BK468 HB hHeld ⊢
   refine pu_ 0 (some 7) ?_ (bs_ 1 7) rfl rfl (any_of HT_.out (by kernel_rfl)) (fun _ _ _ h => h) (y_ (by rfl) ?_) ?_ ?_ ?_
   rotate_left
   ·intro w'
    go_simp
    with_reducible rfl
   rotate_left
   ·simp only [Act.put, s1_, s2_, s3_, i64_w, i32_w]
    rfl
   refine take_ (i := 1) (N := some 8) (v := ?_) (a' := ?_) (bs_ 2 6) rfl rfl (take_ofW HT_.out HW_.out (by kernel_rfl)) (fun _ _ _ h => h) (Or.inl ⟨by rfl, ?_⟩) hHeld ?_ ?_
   rotate_left
   ·rintro w' ⟨s0, s1, s2, s3, s4, s5, s6⟩
    go_simp
    with_reducible rfl
   rotate_left
   ·simp only [Act.put, s1_, s2_, s3_, i64_w, i32_w]
    rfl
   refine take_ (i := 3) (N := some 10) (v := ?_) (a' := ?_) #[true, true, false, true, false, false, false, false] rfl rfl (take_ofW HT_.out HW_.out (by kernel_rfl)) (fun _ _ _ h => h) (Or.inl ⟨by rfl, ?_⟩) hHeld ?_ ?_
   rotate_left
   ·rintro w' ⟨s0, s1, s2, s3, s4, s5, s6⟩
    go_simp
    with_reducible rfl
   rotate_left
   ·simp only [Act.put, s1_, s2_, s3_, i64_w, i32_w]
    rfl
   refine one_ (i := 2) (N := some 9) (bs_ 4 4) rfl rfl (one_of HT_.out (by kernel_rfl)) (by decide) (fun K hK => ?_)
   refine goes_ Tryd.func49 (by kernel_rfl) rfl #[.int .i64 a0_2] (by rfl) rfl rfl (by (try simp only [List.map_toArray, List.map_cons, List.map_nil]); first | done | rfl | (simp only [List.length_drop, List.length_take]; rfl)) ?_
   with_reducible refine (moment_plain.calls a0_2 t470 _ A4.out).mono ?_
   rintro e w11 ⟨rfl, hb⟩
   refine ⟨_, rfl, ?_⟩
   have n0_ := Aside0.mk (blk_below (g := gb468) (o := .cells #[.int .i64 a0_0, .int .i64 a0_1, .int .i64 a0_2, .int .i64 a0_3, .int .i64 a0_4, .int .i64 a0_5, .int .i64 a0_6] 23 (0, 0)) (by (with_reducible repeat (first | refine blk_drewN ?_ _ | refine blk_drew ?_ | refine blk_alloc ?_ _)); exact BK468.out) hb)
   have n1_ := Aside0.mk (below_step (by repeat (first | (with_reducible first | exact HB.out | apply below_alloc | apply pw_below_drewN | apply below_drew1 | refine below_set ?_ GE468.out) | exact HB.out)) hb)
   clear BK468
   clear HB
   have BK468 := n0_
   have HB := n1_
   clear n0_ n1_
   (try clear hb)
   (try clear hb2)
   (try clear hk)
   (try clear hi)
   refine hK.out _ _ ⟨(blk_cell BK468.out 0).trans rfl, (blk_cell BK468.out 1).trans rfl, (blk_cell BK468.out 2).trans rfl, (blk_cell BK468.out 3).trans rfl, (blk_cell BK468.out 4).trans rfl, (blk_cell BK468.out 5).trans rfl, (blk_cell BK468.out 6).trans rfl⟩ (fun hHeld => ?_)
   clear hK K
   refine norm_ (a' := ?_) ?_ ?_
   rotate_left
   ·show Act.put _ (some 9) _ = _
    simp only [Act.put, s1_, s2_, s3_, i64_w, i32_w]
    rfl
   refine one_ (i := 4) (N := some 11) (bs_ 5 3) rfl rfl (one_of HT_.out (by kernel_rfl)) (by decide) (fun K hK => ?_)
   refine goes_ Tryd.func50 (by kernel_rfl) rfl #[.agg #[.int .i64 a0_0, .int .i64 a0_1, .int .i64 a0_2, .int .i64 a0_3, .int .i64 a0_4, .int .i64 a0_5, .int .i64 a0_6]] (by rfl) rfl rfl (by (try simp only [List.map_toArray, List.map_cons, List.map_nil]); first | done | rfl | (simp only [List.length_drop, List.length_take]; rfl)) ?_
   with_reducible refine (moment_dashed.calls a0_0 a0_1 a0_2 a0_3 a0_4 a0_5 a0_6 t471 _ A5.out).mono ?_
   rintro e w12 ⟨rfl, hb⟩
   refine ⟨_, rfl, ?_⟩
   have n0_ := Aside0.mk (blk_below (g := gb468) (o := .cells #[.int .i64 a0_0, .int .i64 a0_1, .int .i64 a0_2, .int .i64 a0_3, .int .i64 a0_4, .int .i64 a0_5, .int .i64 a0_6] 23 (0, 0)) (by (with_reducible repeat (first | refine blk_drewN ?_ _ | refine blk_drew ?_ | refine blk_alloc ?_ _)); exact BK468.out) hb)
   have n1_ := Aside0.mk (below_step (by repeat (first | (with_reducible first | exact HB.out | apply below_alloc | apply pw_below_drewN | apply below_drew1 | refine below_set ?_ GE468.out) | exact HB.out)) hb)
   clear BK468
   clear HB
   have BK468 := n0_
   have HB := n1_
   clear n0_ n1_
   (try clear hb)
   (try clear hb2)
   (try clear hk)
   (try clear hi)
   refine hK.out _ _ ⟨(blk_cell BK468.out 0).trans rfl, (blk_cell BK468.out 1).trans rfl, (blk_cell BK468.out 2).trans rfl, (blk_cell BK468.out 3).trans rfl, (blk_cell BK468.out 4).trans rfl, (blk_cell BK468.out 5).trans rfl, (blk_cell BK468.out 6).trans rfl⟩ (fun hHeld => ?_)
   clear hK K
   refine norm_ (a' := ?_) ?_ ?_
   rotate_left
   ·show Act.put _ (some 11) _ = _
    simp only [Act.put, s1_, s2_, s3_, i64_w, i32_w]
    rfl
   refine pu_ 5 (some 12) ?_ (bs_ 6 2) rfl rfl (any_of HT_.out (by kernel_rfl)) (fun _ _ _ h => h) (y_ (by rfl) ?_) ?_ ?_ ?_
   rotate_left
   ·intro w'
    go_simp
    with_reducible rfl
   rotate_left
   ·simp only [Act.put, s1_, s2_, s3_, i64_w, i32_w]
    rfl
   refine pu_ 6 (some 2) ?_ (bs_ 7 1) rfl rfl (any_of HT_.out (by kernel_rfl)) (fun _ _ _ h => h) (y_ (by rfl) ?_) ?_ ?_ ?_
   rotate_left
   ·intro w'
    go_simp
    with_reducible rfl
   rotate_left
   ·simp only [Act.put, s1_, s2_, s3_, i64_w, i32_w]
    rfl
   refine pu_ 7 (some 3) ?_ (bs_ 8 0) rfl rfl (any_of HT_.out (by kernel_rfl)) (fun _ _ _ h => h) (y_ (by rfl) ?_) ?_ ?_ ?_
   rotate_left
   ·intro w'
    go_simp
    with_reducible rfl
   rotate_left
   ·simp only [Act.put, s1_, s2_, s3_, i64_w, i32_w]
    rfl
   refine done_ (done_of HT_.out (by kernel_rfl)) ?_
   try go_wp2
   go_ret2
   exact ⟨by first | rfl | (simp [errW_none, errW_some] <;> rfl) | (simp [*, errW_none, errW_some] <;> rfl), by repeat (first | (with_reducible first | exact HB.out | apply below_alloc | apply pw_below_drewN | apply below_drew1 | refine below_set ?_ GE468.out) | exact HB.out)⟩
  ·rw [if_neg c6] at H
   exact absurd H (by simp)
 ·replace c3 := Bool.eq_false_iff.mpr c3
  subst c3
  have H1 : (some ((⟨#[]⟩ : ByteArray), 21)) = some (r1, r2) := by rw [if_neg (show ¬ (false = true) by decide)] at H; exact H
  clear H
  have H := H1
  clear H1
  simp only [Option.some.injEq, Prod.mk.injEq] at H
  obtain ⟨rfl, rfl⟩ := H
  go_enter Tryd.func24, Tryd.ntmps24
  go_wp2_with (first | ((with_reducible refine gate_dst (N := 1) rfl ?_); refine box_event ?hg (N := 1) ?hd (cs := #[.int .i64 a0_0, .int .i64 a0_1, .int .i64 a0_2, .int .i64 a0_3, .int .i64 a0_4, .int .i64 a0_5, .int .i64 a0_6]) (t := 23) ?hr ?_; (case hd => rfl); (case hg => rfl); (case hr => first | (go_simp; done) | (go_simp; rfl)); intro gb468 hg w13 hbox hb; have n0_ := Aside0.mk (below_step (by repeat (first | (with_reducible first | exact HB.out | apply below_alloc | apply pw_below_drewN | apply below_drew1) | exact HB.out)) hb); have n1_ := Aside0.mk (hbox); have n2_ := Aside0.mk ((by rw [hg]; exact (below_size (by repeat (first | (with_reducible first | exact HB.out | apply below_alloc | apply pw_below_drewN | apply below_drew1) | exact HB.out))) : w.heap.size ≤ gb468)); have n3_ := Aside0.mk ((by rw [hg]; exact (below_size (by repeat (first | (with_reducible first | exact HB.out | apply below_alloc | apply pw_below_drewN | apply below_drew1) | exact HB.out))) : w.heap.size ≤ gb468)); clear HB; have HB := n0_; have BK468 := n1_; have GW468 := n2_; have GE468 := n3_; clear n0_ n1_ n2_ n3_; clear hb hbox hg; have hcz14_0 : w13.cell? ⟨gb468, 0, none⟩ = some (.int .i64 a0_0) := (blk_cell BK468.out 0).trans rfl; have hcz14_1 : w13.cell? ⟨gb468, 1, none⟩ = some (.int .i64 a0_1) := (blk_cell BK468.out 1).trans rfl; have hcz14_2 : w13.cell? ⟨gb468, 2, none⟩ = some (.int .i64 a0_2) := (blk_cell BK468.out 2).trans rfl; have hcz14_3 : w13.cell? ⟨gb468, 3, none⟩ = some (.int .i64 a0_3) := (blk_cell BK468.out 3).trans rfl; have hcz14_4 : w13.cell? ⟨gb468, 4, none⟩ = some (.int .i64 a0_4) := (blk_cell BK468.out 4).trans rfl; have hcz14_5 : w13.cell? ⟨gb468, 5, none⟩ = some (.int .i64 a0_5) := (blk_cell BK468.out 5).trans rfl; have hcz14_6 : w13.cell? ⟨gb468, 6, none⟩ = some (.int .i64 a0_6) := (blk_cell BK468.out 6).trans rfl; have hfz14_0 := blk_frozen BK468.out 0; have hfz14_1 := blk_frozen BK468.out 1; have hfz14_2 := blk_frozen BK468.out 2; have hfz14_3 := blk_frozen BK468.out 3; have hfz14_4 := blk_frozen BK468.out 4; have hfz14_5 := blk_frozen BK468.out 5; have hfz14_6 := blk_frozen BK468.out 6) | ((with_reducible refine gate_callee (f := 46) rfl ?_); refine goesL_ (some 5) rfl rfl Tryd.func46 (by kernel_rfl) rfl #[.agg #[.int .i64 a0_0, .int .i64 a0_1, .int .i64 a0_2, .int .i64 a0_3, .int .i64 a0_4, .int .i64 a0_5, .int .i64 a0_6]] rfl (by (try simp only [List.map_toArray, List.map_cons, List.map_nil]); first | done | rfl | (simp only [List.length_drop, List.length_take]; rfl)) ?_; (with_reducible refine (moment_isDay.calls a0_0 a0_1 a0_2 a0_3 a0_4 a0_5 a0_6 false _ A2.out (by first | exact laid_below HL_.out (by repeat (first | (with_reducible first | exact HB.out | apply below_alloc | apply pw_below_drewN | apply below_drew1) | exact HB.out)) | exact laid_drawn HL_.out (by repeat (first | exact Drawn0.refl _ | apply Drawn0.step)))).mono ?_); rintro e w15 ⟨rfl, hb⟩; refine ⟨_, rfl, ?_⟩; have n0_ := Aside0.mk (blk_below (g := gb468) (o := .cells #[.int .i64 a0_0, .int .i64 a0_1, .int .i64 a0_2, .int .i64 a0_3, .int .i64 a0_4, .int .i64 a0_5, .int .i64 a0_6] 23 (0, 0)) (by (with_reducible repeat (first | refine blk_drewN ?_ _ | refine blk_drew ?_ | refine blk_alloc ?_ _)); exact BK468.out) hb); have n1_ := Aside0.mk (below_step (by repeat (first | (with_reducible first | exact HB.out | apply below_alloc | apply pw_below_drewN | apply below_drew1 | refine below_set ?_ GE468.out) | exact HB.out)) hb); clear BK468; clear HB; have BK468 := n0_; have HB := n1_; clear n0_ n1_; (try clear hb); (try clear hb2); (try clear hk); (try clear hi)))
  go_ret2
  exact ⟨by first | rfl | (simp [errW_none, errW_some] <;> rfl) | (simp [*, errW_none, errW_some] <;> rfl), by repeat (first | (with_reducible first | exact HB.out | apply below_alloc | apply pw_below_drewN | apply below_drew1 | refine below_set ?_ GE468.out) | exact HB.out)⟩
end Go.Proofs.YtjlchnmpebdggaaDoor.Mo
end
section
-- PRINTED by a driver of print.py
namespace Go.Proofs.YtjlchnmpebdggaaDoor.Mo
open Go.RowKit Go.Proofs.YtjlchnmpebdggaaDoorW.PrintWords Go.Proofs.YtjlchnmpebdggaaDoorW.PrintLast Go.Proofs.YtjlchnmpebdggaaDoorW.PrintMore
attribute [local go_sem] max2_int min2_int max_two min_two max_three min_three max_four min_four   -- for this text's walks alone
set_option linter.unusedVariables false
set_option linter.unusedSimpArgs false
end Go.Proofs.YtjlchnmpebdggaaDoor.Mo
end
section
-- PRINTED by a driver of print.py
namespace Go.Proofs.YtjlchnmpebdggaaDoor.Mo
open Go.RowKit Go.Proofs.YtjlchnmpebdggaaDoorW.PrintWords Go.Proofs.YtjlchnmpebdggaaDoorW.PrintLast Go.Proofs.YtjlchnmpebdggaaDoorW.PrintMore
attribute [local go_sem] max2_int min2_int max_two min_two max_three min_three max_four min_four   -- for this text's walks alone
set_option linter.unusedVariables false
set_option linter.unusedSimpArgs false
attribute [local go_sem high] eqA23
end Go.Proofs.YtjlchnmpebdggaaDoor.Mo
end
section
-- PRINTED by a driver of print.py
namespace Go.Proofs.YtjlchnmpebdggaaDoor.Mo
open Go.RowKit Go.Proofs.YtjlchnmpebdggaaDoorW.PrintWords Go.Proofs.YtjlchnmpebdggaaDoorW.PrintLast Go.Proofs.YtjlchnmpebdggaaDoorW.PrintMore
attribute [local go_sem] max2_int min2_int max_two min_two max_three min_three max_four min_four   -- for this text's walks alone
set_option linter.unusedVariables false
set_option linter.unusedSimpArgs false
end Go.Proofs.YtjlchnmpebdggaaDoor.Mo
end
section
namespace Go.Proofs.YtjlchnmpebdggaaDoor.Mo
open Go.RowKit Go.Proofs.YtjlchnmpebdggaaDoorW.PrintWords
def printDayP (y m d : Int) : ByteArray × Int := if isDayB y m d = true then (plainP d ++ dashP y m, 0) else (⟨#[]⟩, 21)
theorem printDay_f (y m d h mi s z : Int) : moment_PrintDay.f y m d h mi s z = some (printDayP y m d) := by
  unfold moment_PrintDay.f printDayP
  rw [isDay_f, Option.bind_some]
  by_cases hd : isDayB y m d = true
  · obtain ⟨a1, a2, a3, a4, a5, a6⟩ := (isDay_iff _ _ _).1 hd
    have hp := plainP_size d
    have hs := dashP_size y m a3 a4
    rw [if_pos hd, if_pos hd, plain_f, Option.bind_some]
    unfold moment_dashed.f
    rw [if_pos ⟨a3, a4⟩, Option.bind_some, if_pos (by omega)]
  · rw [if_neg hd, if_neg hd]
end Go.Proofs.YtjlchnmpebdggaaDoor.Mo
end
section
-- PRINTED by a driver of print.py
namespace Go.Proofs.YtjlchnmpebdggaaDoor.Mo
open Go.RowKit Go.Proofs.YtjlchnmpebdggaaDoorW.PrintWords Go.Proofs.YtjlchnmpebdggaaDoorW.PrintLast Go.Proofs.YtjlchnmpebdggaaDoorW.PrintMore
attribute [local go_sem] max2_int min2_int max_two min_two max_three min_three max_four min_four   -- for this text's walks alone
set_option linter.unusedVariables false
set_option linter.unusedSimpArgs false
attribute [local go_sem high] eqA23
end Go.Proofs.YtjlchnmpebdggaaDoor.Mo
end
section
namespace Go.Proofs.YtjlchnmpebdggaaDoor.Mo
open Go.RowKit Go.Proofs.YtjlchnmpebdggaaDoorW.PrintWords
theorem refuse_cases (y m d h mi s z : Int) : (isDayB y m d = false ∧ validB y m d h mi s z = false ∧ refuseP y m d h mi s z = 21) ∨ (isDayB y m d = true ∧ validB y m d h mi s z = false ∧ refuseP y m d h mi s z = 20) ∨ (isDayB y m d = true ∧ validB y m d h mi s z = true ∧ refuseP y m d h mi s z = 0) := by
  have hv : validB y m d h mi s z = (isDayB y m d && timeB h mi s z) := rfl
  unfold refuseP
  rw [hv]
  cases isDayB y m d <;> cases timeB h mi s z <;> simp
end Go.Proofs.YtjlchnmpebdggaaDoor.Mo
end
section
namespace Go.Proofs.YtjlchnmpebdggaaDoor.Mo
open Go.RowKit Go.Proofs.YtjlchnmpebdggaaDoorW.PrintWords
theorem below_true {s : ByteArray} {m : Int} (h : (belowP s m).2 = true) : 0 ≤ (belowP s m).1 ∧ (belowP s m).1 ≤ m := by
  have r := belowP_range s m
  unfold belowP at h r ⊢
  simp only [Bool.and_eq_true, decide_eq_true_eq] at h
  exact ⟨r.1, h.2.2⟩
theorem zoneT_true {s : ByteArray} (h : (zoneT s).2 = true) : -1439 ≤ (zoneT s).1 ∧ (zoneT s).1 ≤ 1439 := by
  unfold zoneT at h ⊢
  split at h
  · rename_i hc
    rw [if_pos hc]
    simp only [Bool.and_eq_true] at h
    have h1 := below_true h.1
    have h2 := below_true h.2
    simp only
    split <;> omega
  · exact absurd h (by decide)
theorem zoneL_range (l : List UInt8) : -1439 ≤ zoneL l ∧ zoneL l ≤ 1439 := by
  unfold zoneL
  repeat' split
  all_goals omega
theorem short_true {most : Int} {q : St} (h : (shortP most q).2 = true) : 0 ≤ (shortP most q).1 ∧ (shortP most q).1 ≤ most := by
  have r := digitsP_range q.2.2
  unfold shortP at h ⊢
  simp only [Bool.and_eq_true, decide_eq_true_eq] at h
  exact ⟨r.1, h.2.2.2⟩
theorem toldP_cases (y m d h mi s z : Int) (ok : Bool) (ht : ok = true → timeB h mi s z = true) : ∃ r1 r2 r3 r4 r5 r6 r7 e, toldP y m d h mi s z ok = (r1, r2, r3, r4, r5, r6, r7, e) ∧
    ((e = 0 ∧ validB r1 r2 r3 r4 r5 r6 r7 = true ∧ ok = true) ∨ (e ≠ 0 ∧ r1 = 0 ∧ r2 = 0 ∧ r3 = 0 ∧ r4 = 0 ∧ r5 = 0 ∧ r6 = 0 ∧ r7 = 0)) := by
  unfold toldP
  cases ok with
  | false => exact ⟨_, _, _, _, _, _, _, _, if_neg (by decide), .inr ⟨by decide, rfl, rfl, rfl, rfl, rfl, rfl, rfl⟩⟩
  | true =>
    rw [if_pos rfl]
    by_cases hd : isDayB y m d = true
    · rw [if_pos hd]
      exact ⟨_, _, _, _, _, _, _, _, rfl, .inl ⟨rfl, (valid_iff _ _ _ _ _ _ _).2 ⟨hd, ht rfl⟩, rfl⟩⟩
    · rw [if_neg hd]
      exact ⟨_, _, _, _, _, _, _, _, rfl, .inr ⟨by decide, rfl, rfl, rfl, rfl, rfl, rfl, rfl⟩⟩
theorem ri_cases (s : ByteArray) : ∃ r1 r2 r3 r4 r5 r6 r7 e, moment_ReadInternal.f s = some (r1, r2, r3, r4, r5, r6, r7, e) ∧
    ((e = 0 ∧ validB r1 r2 r3 r4 r5 r6 r7 = true ∧ s.size = 26) ∨ (e ≠ 0 ∧ r1 = 0 ∧ r2 = 0 ∧ r3 = 0 ∧ r4 = 0 ∧ r5 = 0 ∧ r6 = 0 ∧ r7 = 0)) := by
  unfold moment_ReadInternal.f
  by_cases hf : formI s
  · rw [if_pos hf, read_f]
    have ht : riOk s = true → timeB (riH s).1 (riM s).1 (riS s).1 (riZ s).1 = true := by
      intro h
      unfold riOk at h
      simp only [Bool.and_eq_true] at h
      have h1 := below_true h.2.2.1
      have h2 := below_true h.2.2.2.1
      have h3 := below_true h.2.2.2.2.1
      have h4 := zoneT_true h.2.2.2.2.2
      exact (time_iff _ _ _ _).2 ⟨h1.1, h1.2, h2.1, h2.2, h3.1, h3.2, h4.1, h4.2⟩
    obtain ⟨r1, r2, r3, r4, r5, r6, r7, e, he, hc⟩ := toldP_cases (riY s).1 (riY s).2.1 (riY s).2.2.1 (riH s).1 (riM s).1 (riS s).1 (riZ s).1 (riOk s) ht
    refine ⟨r1, r2, r3, r4, r5, r6, r7, e, congrArg some he, ?_⟩
    rcases hc with ⟨h0, h1, _⟩ | h
    · exact .inl ⟨h0, h1, hf.1⟩
    · exact .inr h
  · rw [if_neg hf]
    exact ⟨_, _, _, _, _, _, _, _, rfl, .inr ⟨by decide, rfl, rfl, rfl, rfl, rfl, rfl, rfl⟩⟩
theorem second_true {s : ByteArray} {q : St} (h : (secondP s q).2 = true) : 0 ≤ (secondP s q).1 ∧ (secondP s q).1 ≤ 59 := by
  have e : secondP s q = if q.2.1 = 5 then (if 59 < (shortP 60 (nx s q)).1 then 59 else (shortP 60 (nx s q)).1, (shortP 60 (nx s q)).2) else (0, true) := rfl
  have g : (shortP 60 (nx s q)).2 = true → 0 ≤ (shortP 60 (nx s q)).1 ∧ (shortP 60 (nx s q)).1 ≤ 60 := fun h' => short_true (most := 60) (q := nx s q) h'
  generalize shortP 60 (nx s q) = v at e g
  generalize secondP s q = S at *
  subst e
  by_cases c : q.2.1 = 5
  · rw [if_pos c] at h ⊢
    have := g h
    show 0 ≤ (if 59 < v.1 then 59 else v.1) ∧ (if 59 < v.1 then 59 else v.1) ≤ 59
    split <;> omega
  · rw [if_neg c]
    exact ⟨by decide, by decide⟩
theorem zoneC_true {q : St} (hz : (zoneCP q).2 = true) : -1439 ≤ (zoneCP q).1 ∧ (zoneCP q).1 ≤ 1439 := by
  have e : zoneCP q = if q.2.1 = 3 then zoneT q.2.2 else if q.2.1 = 1 then (zoneL (upperP q.2.2).data.toList, true) else (0, true) := rfl
  have g : (zoneT q.2.2).2 = true → _ := fun h' => zoneT_true h'
  have g2 := zoneL_range (upperP q.2.2).data.toList
  generalize zoneT q.2.2 = v at e g
  generalize zoneL (upperP q.2.2).data.toList = u at e g2
  rw [e] at hz ⊢
  by_cases c : q.2.1 = 3
  · rw [if_pos c] at hz ⊢
    exact g hz
  · rw [if_neg c]
    by_cases c1 : q.2.1 = 1
    · rw [if_pos c1]
      exact g2
    · rw [if_neg c1]
      exact ⟨by decide, by decide⟩
theorem all_eight {a b c d e f g h : Bool} (H : [a, b, c, d, e, f, g, h].all id = true) : e = true ∧ g = true ∧ h = true := by
  simp only [List.all_cons, List.all_nil, Bool.and_eq_true, id_eq, Bool.and_true] at H
  exact ⟨H.2.2.2.2.1, H.2.2.2.2.2.2.1, H.2.2.2.2.2.2.2⟩
theorem head_parts {s : ByteArray} (h : headOk s = true) : (zoneCP (hq9 s)).2 = true ∧ (shortP 23 (hq5 s)).2 = true ∧ (shortP 59 (hq7 s)).2 = true ∧ (secondP s (hq8 s)).2 = true := by
  unfold headOk at h
  rw [Bool.and_eq_true, Bool.and_eq_true] at h
  have h2 := h.1.2
  unfold headB at h2
  exact ⟨h.1.1, all_eight h2⟩
theorem rh_cases (s : ByteArray) (hs : s.size ≤ 140737488351232) : ∃ r1 r2 r3 r4 r5 r6 r7 e, moment_ReadHeader.f s = some (r1, r2, r3, r4, r5, r6, r7, e) ∧
    ((e = 0 ∧ validB r1 r2 r3 r4 r5 r6 r7 = true) ∨ (e ≠ 0 ∧ r1 = 0 ∧ r2 = 0 ∧ r3 = 0 ∧ r4 = 0 ∧ r5 = 0 ∧ r6 = 0 ∧ r7 = 0)) := by
  unfold moment_ReadHeader.f
  rw [if_pos hs, read_f]
  have ht : headOk s = true → timeB (shortP 23 (hq5 s)).1 (shortP 59 (hq7 s)).1 (secondP s (hq8 s)).1 (zoneCP (hq9 s)).1 = true := by
    intro h
    obtain ⟨hz, h5, h7, h8⟩ := head_parts h
    have g1 := short_true h5
    have g2 := short_true h7
    have g3 := second_true h8
    have g4 := zoneC_true hz
    exact (time_iff _ _ _ _).2 ⟨g1.1, g1.2, g2.1, g2.2, g3.1, g3.2, g4.1, g4.2⟩
  obtain ⟨r1, r2, r3, r4, r5, r6, r7, e, he, hc⟩ := toldP_cases (yearP (hq4 s)).1 (monthP (hq3 s)).1 (shortP 99 (hq2 s)).1 (shortP 23 (hq5 s)).1 (shortP 59 (hq7 s)).1 (secondP s (hq8 s)).1 (zoneCP (hq9 s)).1 (headOk s) ht
  refine ⟨r1, r2, r3, r4, r5, r6, r7, e, congrArg some he, ?_⟩
  rcases hc with ⟨h0, h1, _⟩ | h
  · exact .inl ⟨h0, h1⟩
  · exact .inr h
theorem rd_cases (s : ByteArray) : ∃ r1 r2 r3 r4 r5 r6 r7 e, readDayP s = (r1, r2, r3, r4, r5, r6, r7, e) ∧
    ((e = 0 ∧ validB r1 r2 r3 0 0 0 0 = true ∧ r4 = 0 ∧ r5 = 0 ∧ r6 = 0 ∧ r7 = 0) ∨ (e ≠ 0 ∧ r1 = 0 ∧ r2 = 0 ∧ r3 = 0 ∧ r4 = 0 ∧ r5 = 0 ∧ r6 = 0 ∧ r7 = 0)) := by
  unfold readDayP
  by_cases hs : s.size = 10 ∨ s.size = 11
  · rw [if_pos hs]
    generalize (dayP (digitsP (s.extract 0 (s.size - 9))).1 (s.extract (s.size - 9) s.size)) = D
    generalize ((digitsP (s.extract 0 (s.size - 9))).2 && D.2.2.2) = ok
    unfold toldP
    cases ok with
    | false => exact ⟨_, _, _, _, _, _, _, _, if_neg (by decide), .inr ⟨by decide, rfl, rfl, rfl, rfl, rfl, rfl, rfl⟩⟩
    | true =>
      rw [if_pos rfl]
      by_cases hd : isDayB D.1 D.2.1 D.2.2.1 = true
      · rw [if_pos hd]
        exact ⟨_, _, _, _, _, _, _, _, rfl, .inl ⟨rfl, (valid_iff _ _ _ _ _ _ _).2 ⟨hd, by decide⟩, rfl, rfl, rfl, rfl⟩⟩
      · rw [if_neg hd]
        exact ⟨_, _, _, _, _, _, _, _, rfl, .inr ⟨by decide, rfl, rfl, rfl, rfl, rfl, rfl, rfl⟩⟩
  · rw [if_neg hs]
    exact ⟨_, _, _, _, _, _, _, _, rfl, .inr ⟨by decide, rfl, rfl, rfl, rfl, rfl, rfl, rfl⟩⟩
theorem print_internal {y m d h mi s z : Int} (hv : validB y m d h mi s z = true) : moment_PrintInternal.f y m d h mi s z = some (internalT y m d h mi s z, 0) := by
  unfold moment_PrintInternal.f printInternalP
  rcases refuse_cases y m d h mi s z with ⟨_, h2, _⟩ | ⟨_, h2, _⟩ | ⟨_, _, hr⟩
  · rw [hv] at h2; exact absurd h2 (by decide)
  · rw [hv] at h2; exact absurd h2 (by decide)
  · rw [if_pos hr]
theorem print_header {y m d h mi s z : Int} (hv : validB y m d h mi s z = true) : moment_PrintHeader.f y m d h mi s z = some (headerT y m d h mi s z, 0) := by
  unfold moment_PrintHeader.f printHeaderP
  rcases refuse_cases y m d h mi s z with ⟨_, h2, _⟩ | ⟨_, h2, _⟩ | ⟨_, _, hr⟩
  · rw [hv] at h2; exact absurd h2 (by decide)
  · rw [hv] at h2; exact absurd h2 (by decide)
  · rw [if_pos hr]
theorem print_day {y m d : Int} (hv : validB y m d 0 0 0 0 = true) : moment_PrintDay.f y m d 0 0 0 0 = some (plainP d ++ dashP y m, 0) ∧ moment_ReadDay.f 100 (plainP d ++ dashP y m) = some (y, m, d, 0, 0, 0, 0, 0) ∧ stampP y m d 0 0 0 0 = 86400 * daysV y m d 0 0 0 0 := by
  have hd := ((valid_iff _ _ _ _ _ _ _).1 hv).1
  obtain ⟨a1, a2, a3, a4, a5, a6⟩ := (isDay_iff _ _ _).1 hd
  have hpl := plainP_size d
  have hs := dashP_size y m a3 a4
  refine ⟨?_, ?_, ?_⟩
  · rw [printDay_f]; unfold printDayP; rw [if_pos hd]
  · rw [readDay_f 100 (by decide) _ (by rw [ByteArray.size_append]; omega), day_back y m d hd]
  · unfold stampP daysV; rw [if_pos hv, if_pos hv]; omega
end Go.Proofs.YtjlchnmpebdggaaDoor.Mo
end
section
namespace Go.Proofs.YtjlchnmpebdggaaDoor.Mo
open Go.RowKit Go.Proofs.YtjlchnmpebdggaaDoorW.PrintWords
attribute [local go_sem high] eqA23
theorem print_day2 {y m d h mi s z : Int} (hv : validB y m d 0 0 0 0 = true) (e1 : h = 0) (e2 : mi = 0) (e3 : s = 0) (e4 : z = 0) : moment_PrintDay.f y m d h mi s z = some (plainP d ++ dashP y m, 0) ∧ moment_ReadDay.f 100 (plainP d ++ dashP y m) = some (y, m, d, h, mi, s, z, 0) ∧ stampP y m d h mi s z = 86400 * daysV y m d h mi s z := by
  subst e1 e2 e3 e4
  exact print_day hv
set_option maxHeartbeats 8000000 in
set_option maxRecDepth 100000 in
theorem read_calls (s : ByteArray) (w : World) (hs : s.size ≤ 140737488351232) (hL : Laid w) :
    Calls Tryd.prog 11 #[.string s] w fun e w' => e = .returned (.bool true) ∧ Below w.heap.size w w' := by
  have HL := Lib.hid hL
  clear hL
  obtain ⟨a1, a2, a3, a4, a5, a6, a7, ea, hia, hca⟩ := ri_cases s
  obtain ⟨b1, b2, b3, b4, b5, b6, b7, eb, hib, hcb⟩ := rd_cases s
  obtain ⟨c1, c2, c3, c4, c5, c6, c7, ec, hic, hcc⟩ := rh_cases s hs
  have HIA := Lib.hid hia
  have HIB := Lib.hid ((readDay_f 100 (by decide) s hs).trans (congrArg some hib))
  have HIC := Lib.hid hic
  have HCA := Lib.hid hca
  have HCB := Lib.hid hcb
  have HCC := Lib.hid hcc
  clear hia hib hic hca hcb hcc hs
  have HB := Lib.hid (Below.refl w.heap.size w)
  go_enter Tryd.func11, Tryd.ntmps11
  go_wp2_with fail
  refine (known_calls _ (laid_below HL.out (by repeat (first | (with_reducible exact HB.out) | (with_reducible apply below_drew) | (with_reducible apply pw_below_drewN) | exact HB.out)))).mono ?_
  rintro e w1 ⟨rfl, hb⟩
  have n0_ := Lib.hid (below_step (by repeat (first | (with_reducible exact HB.out) | (with_reducible apply below_drew) | (with_reducible apply pw_below_drewN) | exact HB.out)) hb)
  clear HB
  have HB := n0_
  clear n0_
  clear hb
  go_wp2_with fail
  refine (moment_ReadInternal.calls s a1 a2 a3 a4 a5 a6 a7 ea _ HIA.out (laid_below HL.out (by repeat (first | (with_reducible exact HB.out) | (with_reducible apply below_drew) | (with_reducible apply pw_below_drewN) | exact HB.out)))).mono ?_
  rintro e w2 ⟨rfl, hb⟩
  have n0_ := Lib.hid (below_step (by repeat (first | (with_reducible exact HB.out) | (with_reducible apply below_drew) | (with_reducible apply pw_below_drewN) | exact HB.out)) hb)
  clear HB
  have HB := n0_
  clear n0_
  clear hb
  go_wp2_with fail
  have n1_ := Lib.hid (heap_alloc_new w2 (.cells #[.int .i64 a1, .int .i64 a2, .int .i64 a3, .int .i64 a4, .int .i64 a5, .int .i64 a6, .int .i64 a7] 23))
  have HA := n1_
  clear n1_
  have n0_ := Lib.hid (below_alloc HB.out (.cells #[.int .i64 a1, .int .i64 a2, .int .i64 a3, .int .i64 a4, .int .i64 a5, .int .i64 a6, .int .i64 a7] 23))
  clear HB
  have HB := n0_
  clear n0_
  generalize w2.alloc (.cells #[.int .i64 a1, .int .i64 a2, .int .i64 a3, .int .i64 a4, .int .i64 a5, .int .i64 a6, .int .i64 a7] 23) = w3 at *
  refine (moment_ReadDay.calls 100 s b1 b2 b3 b4 b5 b6 b7 eb _ HIB.out (laid_below HL.out (by repeat (first | (with_reducible exact HB.out) | (with_reducible apply below_drew) | (with_reducible apply pw_below_drewN) | exact HB.out)))).mono ?_
  rintro e w4 ⟨rfl, hb⟩
  have n0_ := Lib.hid (below_step (by repeat (first | (with_reducible exact HB.out) | (with_reducible apply below_drew) | (with_reducible apply pw_below_drewN) | exact HB.out)) hb)
  clear HB
  have HB := n0_
  clear n0_
  have n0_ := Lib.hid ((hb.block _ (blk_lt HA.out)).trans HA.out)
  clear HA
  have HA := n0_
  clear n0_
  clear hb
  go_wp2_with fail
  have n1_ := Lib.hid (heap_alloc_new w4 (.cells #[.int .i64 b1, .int .i64 b2, .int .i64 b3, .int .i64 b4, .int .i64 b5, .int .i64 b6, .int .i64 b7] 23))
  have n0_ := Lib.hid ((Below.heap_alloc w4 (.cells #[.int .i64 b1, .int .i64 b2, .int .i64 b3, .int .i64 b4, .int .i64 b5, .int .i64 b6, .int .i64 b7] 23) _ (blk_lt HA.out)).trans HA.out)
  clear HA
  have HA := n0_
  clear n0_
  have HX := n1_
  clear n1_
  have n0_ := Lib.hid (below_alloc HB.out (.cells #[.int .i64 b1, .int .i64 b2, .int .i64 b3, .int .i64 b4, .int .i64 b5, .int .i64 b6, .int .i64 b7] 23))
  clear HB
  have HB := n0_
  clear n0_
  generalize w4.alloc (.cells #[.int .i64 b1, .int .i64 b2, .int .i64 b3, .int .i64 b4, .int .i64 b5, .int .i64 b6, .int .i64 b7] 23) = w5 at *
  refine (moment_ReadHeader.calls s c1 c2 c3 c4 c5 c6 c7 ec _ HIC.out (laid_below HL.out (by repeat (first | (with_reducible exact HB.out) | (with_reducible apply below_drew) | (with_reducible apply pw_below_drewN) | exact HB.out)))).mono ?_
  rintro e w6 ⟨rfl, hb⟩
  have n0_ := Lib.hid (below_step (by repeat (first | (with_reducible exact HB.out) | (with_reducible apply below_drew) | (with_reducible apply pw_below_drewN) | exact HB.out)) hb)
  clear HB
  have HB := n0_
  clear n0_
  have n0_ := Lib.hid ((hb.block _ (blk_lt HA.out)).trans HA.out)
  clear HA
  have HA := n0_
  clear n0_
  have n0_ := Lib.hid ((hb.block _ (blk_lt HX.out)).trans HX.out)
  clear HX
  have HX := n0_
  clear n0_
  clear hb
  go_upto_region 6 with fail
  have n1_ := Lib.hid (heap_alloc_new w6 (.cells #[.int .i64 c1, .int .i64 c2, .int .i64 c3, .int .i64 c4, .int .i64 c5, .int .i64 c6, .int .i64 c7] 23))
  have n0_ := Lib.hid ((Below.heap_alloc w6 (.cells #[.int .i64 c1, .int .i64 c2, .int .i64 c3, .int .i64 c4, .int .i64 c5, .int .i64 c6, .int .i64 c7] 23) _ (blk_lt HA.out)).trans HA.out)
  clear HA
  have HA := n0_
  clear n0_
  have n0_ := Lib.hid ((Below.heap_alloc w6 (.cells #[.int .i64 c1, .int .i64 c2, .int .i64 c3, .int .i64 c4, .int .i64 c5, .int .i64 c6, .int .i64 c7] 23) _ (blk_lt HX.out)).trans HX.out)
  clear HX
  have HX := n0_
  clear n0_
  have HY := n1_
  clear n1_
  have n0_ := Lib.hid (below_alloc HB.out (.cells #[.int .i64 c1, .int .i64 c2, .int .i64 c3, .int .i64 c4, .int .i64 c5, .int .i64 c6, .int .i64 c7] 23))
  clear HB
  have HB := n0_
  clear n0_
  generalize w6.alloc (.cells #[.int .i64 c1, .int .i64 c2, .int .i64 c3, .int .i64 c4, .int .i64 c5, .int .i64 c6, .int .i64 c7] 23) = w7 at *
  generalize w2.heap.size = g1 at *
  generalize w4.heap.size = g2 at *
  generalize w6.heap.size = g3 at *
  clear HIA HIB HIC
  go_cut [62] (fun v62 wc => v62 = .bool false ∧ Aside0 (Below w.heap.size w wc ∧ wc.heap[g1]? = some (.cells #[.int .i64 a1, .int .i64 a2, .int .i64 a3, .int .i64 a4, .int .i64 a5, .int .i64 a6, .int .i64 a7] 23) ∧ wc.heap[g2]? = some (.cells #[.int .i64 b1, .int .i64 b2, .int .i64 b3, .int .i64 b4, .int .i64 b5, .int .i64 b6, .int .i64 b7] 23) ∧ wc.heap[g3]? = some (.cells #[.int .i64 c1, .int .i64 c2, .int .i64 c3, .int .i64 c4, .int .i64 c5, .int .i64 c6, .int .i64 c7] 23)))
  case first =>
    obtain ⟨⟨k0, k1, k2, k3, k4, k5, k6⟩, _⟩ := cells7 HA.out
    obtain ⟨⟨l0, l1, l2, l3, l4, l5, l6⟩, _⟩ := cells7 HX.out
    obtain ⟨⟨m0, m1, m2, m3, m4, m5, m6⟩, _⟩ := cells7 HY.out
    rcases HCA.out with ⟨rfl, _⟩ | ⟨nea, rfl, rfl, rfl, rfl, rfl, rfl, rfl⟩
    · skip
      clear HCA
      rcases HCB.out with ⟨rfl, _, rfl, rfl, rfl, rfl⟩ | ⟨neb, rfl, rfl, rfl, rfl, rfl, rfl, rfl⟩
      · skip
        clear HCB
        rcases HCC.out with ⟨rfl, _⟩ | ⟨nec, rfl, rfl, rfl, rfl, rfl, rfl, rfl⟩
        · skip
          clear HCC
          go_wp2
          go_meet
          exact ⟨rfl, ⟨HB.out, HA.out, HX.out, HY.out⟩⟩
        · skip
          clear HCC
          have qec : (ec != 0) = true := by rw [bne_iff_ne]; exact nec
          have pec : (ec == 0) = false := by rw [beq_eq_false_iff_ne]; exact nec
          go_wp2
          go_meet
          exact ⟨rfl, ⟨HB.out, HA.out, HX.out, HY.out⟩⟩
      · skip
        clear HCB
        have qeb : (eb != 0) = true := by rw [bne_iff_ne]; exact neb
        have peb : (eb == 0) = false := by rw [beq_eq_false_iff_ne]; exact neb
        rcases HCC.out with ⟨rfl, _⟩ | ⟨nec, rfl, rfl, rfl, rfl, rfl, rfl, rfl⟩
        · skip
          clear HCC
          go_wp2
          go_meet
          exact ⟨rfl, ⟨HB.out, HA.out, HX.out, HY.out⟩⟩
        · skip
          clear HCC
          have qec : (ec != 0) = true := by rw [bne_iff_ne]; exact nec
          have pec : (ec == 0) = false := by rw [beq_eq_false_iff_ne]; exact nec
          go_wp2
          go_meet
          exact ⟨rfl, ⟨HB.out, HA.out, HX.out, HY.out⟩⟩
    · skip
      clear HCA
      have qea : (ea != 0) = true := by rw [bne_iff_ne]; exact nea
      have pea : (ea == 0) = false := by rw [beq_eq_false_iff_ne]; exact nea
      rcases HCB.out with ⟨rfl, _, rfl, rfl, rfl, rfl⟩ | ⟨neb, rfl, rfl, rfl, rfl, rfl, rfl, rfl⟩
      · skip
        clear HCB
        rcases HCC.out with ⟨rfl, _⟩ | ⟨nec, rfl, rfl, rfl, rfl, rfl, rfl, rfl⟩
        · skip
          clear HCC
          go_wp2
          go_meet
          exact ⟨rfl, ⟨HB.out, HA.out, HX.out, HY.out⟩⟩
        · skip
          clear HCC
          have qec : (ec != 0) = true := by rw [bne_iff_ne]; exact nec
          have pec : (ec == 0) = false := by rw [beq_eq_false_iff_ne]; exact nec
          go_wp2
          go_meet
          exact ⟨rfl, ⟨HB.out, HA.out, HX.out, HY.out⟩⟩
      · skip
        clear HCB
        have qeb : (eb != 0) = true := by rw [bne_iff_ne]; exact neb
        have peb : (eb == 0) = false := by rw [beq_eq_false_iff_ne]; exact neb
        rcases HCC.out with ⟨rfl, _⟩ | ⟨nec, rfl, rfl, rfl, rfl, rfl, rfl, rfl⟩
        · skip
          clear HCC
          go_wp2
          go_meet
          exact ⟨rfl, ⟨HB.out, HA.out, HX.out, HY.out⟩⟩
        · skip
          clear HCC
          have qec : (ec != 0) = true := by rw [bne_iff_ne]; exact nec
          have pec : (ec == 0) = false := by rw [beq_eq_false_iff_ne]; exact nec
          go_wp2
          go_meet
          exact ⟨rfl, ⟨HB.out, HA.out, HX.out, HY.out⟩⟩
  case rest =>
    obtain ⟨rfl, HQ⟩ := hcut
    clear HB HA HX HY
    have HB := Lib.hid HQ.out.1
    have HA := Lib.hid HQ.out.2.1
    have HX := Lib.hid HQ.out.2.2.1
    have HY := Lib.hid HQ.out.2.2.2
    clear HQ
    go_upto_if 64 with (fail)
    go_cut [90] (fun v wc => Aside0 (Below w.heap.size w wc ∧ wc.heap[g1]? = some (.cells #[.int .i64 a1, .int .i64 a2, .int .i64 a3, .int .i64 a4, .int .i64 a5, .int .i64 a6, .int .i64 a7] 23) ∧ wc.heap[g2]? = some (.cells #[.int .i64 b1, .int .i64 b2, .int .i64 b3, .int .i64 b4, .int .i64 b5, .int .i64 b6, .int .i64 b7] 23) ∧ wc.heap[g3]? = some (.cells #[.int .i64 c1, .int .i64 c2, .int .i64 c3, .int .i64 c4, .int .i64 c5, .int .i64 c6, .int .i64 c7] 23)))
    case first =>
      rcases HCA.out with ⟨rfl, hv, h26⟩ | ⟨nea, rfl, rfl, rfl, rfl, rfl, rfl, rfl⟩
      · skip
        have HP := Lib.hid (print_internal hv)
        have HR := Lib.hid (internal_back a1 a2 a3 a4 a5 a6 a7 hv).1
        have e26 : ((s.size : Int) != 26) = false := by rw [bne_eq_false_iff_eq]; omega
        clear HCA HCB HCC hv h26
        generalize hT_ : internalT a1 a2 a3 a4 a5 a6 a7 = T at *
        clear hT_
        obtain ⟨⟨k0, k1, k2, k3, k4, k5, k6⟩, _⟩ := cells7 HA.out
        go_wp2_with fail
        clear k0 k1 k2 k3 k4 k5 k6
        refine (moment_PrintInternal.calls a1 a2 a3 a4 a5 a6 a7 (T) 0 _ HP.out (laid_below HL.out (by repeat (first | (with_reducible exact HB.out) | (with_reducible apply below_drew) | (with_reducible apply pw_below_drewN) | exact HB.out)))).mono ?_
        rintro e x1 ⟨rfl, hb⟩
        have n0_ := Lib.hid (below_step (by repeat (first | (with_reducible exact HB.out) | (with_reducible apply below_drew) | (with_reducible apply pw_below_drewN) | exact HB.out)) hb)
        clear HB
        have HB := n0_
        clear n0_
        have n0_ := Lib.hid ((hb.block _ (blk_lt HA.out)).trans HA.out)
        clear HA
        have HA := n0_
        clear n0_
        have n0_ := Lib.hid ((hb.block _ (blk_lt HX.out)).trans HX.out)
        clear HX
        have HX := n0_
        clear n0_
        have n0_ := Lib.hid ((hb.block _ (blk_lt HY.out)).trans HY.out)
        clear HY
        have HY := n0_
        clear n0_
        clear hb
        go_wp2_with fail
        refine (moment_ReadInternal.calls (T) a1 a2 a3 a4 a5 a6 a7 0 _ HR.out (laid_below HL.out (by repeat (first | (with_reducible exact HB.out) | (with_reducible apply below_drew) | (with_reducible apply pw_below_drewN) | exact HB.out)))).mono ?_
        rintro e x2 ⟨rfl, hb⟩
        have n0_ := Lib.hid (below_step (by repeat (first | (with_reducible exact HB.out) | (with_reducible apply below_drew) | (with_reducible apply pw_below_drewN) | exact HB.out)) hb)
        clear HB
        have HB := n0_
        clear n0_
        have n0_ := Lib.hid ((hb.block _ (blk_lt HA.out)).trans HA.out)
        clear HA
        have HA := n0_
        clear n0_
        have n0_ := Lib.hid ((hb.block _ (blk_lt HX.out)).trans HX.out)
        clear HX
        have HX := n0_
        clear n0_
        have n0_ := Lib.hid ((hb.block _ (blk_lt HY.out)).trans HY.out)
        clear HY
        have HY := n0_
        clear n0_
        clear hb
        go_upto_region 11 with fail
        have n1_ := Lib.hid (heap_alloc_new x2 (.cells #[.int .i64 a1, .int .i64 a2, .int .i64 a3, .int .i64 a4, .int .i64 a5, .int .i64 a6, .int .i64 a7] 23))
        have n0_ := Lib.hid ((Below.heap_alloc x2 (.cells #[.int .i64 a1, .int .i64 a2, .int .i64 a3, .int .i64 a4, .int .i64 a5, .int .i64 a6, .int .i64 a7] 23) _ (blk_lt HA.out)).trans HA.out)
        clear HA
        have HA := n0_
        clear n0_
        have n0_ := Lib.hid ((Below.heap_alloc x2 (.cells #[.int .i64 a1, .int .i64 a2, .int .i64 a3, .int .i64 a4, .int .i64 a5, .int .i64 a6, .int .i64 a7] 23) _ (blk_lt HX.out)).trans HX.out)
        clear HX
        have HX := n0_
        clear n0_
        have n0_ := Lib.hid ((Below.heap_alloc x2 (.cells #[.int .i64 a1, .int .i64 a2, .int .i64 a3, .int .i64 a4, .int .i64 a5, .int .i64 a6, .int .i64 a7] 23) _ (blk_lt HY.out)).trans HY.out)
        clear HY
        have HY := n0_
        clear n0_
        have HZ := n1_
        clear n1_
        have n0_ := Lib.hid (below_alloc HB.out (.cells #[.int .i64 a1, .int .i64 a2, .int .i64 a3, .int .i64 a4, .int .i64 a5, .int .i64 a6, .int .i64 a7] 23))
        clear HB
        have HB := n0_
        clear n0_
        generalize x2.alloc (.cells #[.int .i64 a1, .int .i64 a2, .int .i64 a3, .int .i64 a4, .int .i64 a5, .int .i64 a6, .int .i64 a7] 23) = x3 at *
        generalize x2.heap.size = g4 at *
        obtain ⟨⟨k0, k1, k2, k3, k4, k5, k6⟩, _⟩ := cells7 HA.out
        obtain ⟨⟨l0, l1, l2, l3, l4, l5, l6⟩, _⟩ := cells7 HZ.out
        go_wp2
        go_meet
        exact ⟨HB.out, HA.out, HX.out, HY.out⟩
      · skip
        clear HCA HCB HCC
        have qea : (ea != 0) = true := by rw [bne_iff_ne]; exact nea
        have pea : (ea == 0) = false := by rw [beq_eq_false_iff_ne]; exact nea
        go_wp2
        go_meet
        exact ⟨HB.out, HA.out, HX.out, HY.out⟩
    case rest =>
      have HQ := hcut
      clear HB HA HX HY hcut
      have HB := Lib.hid HQ.out.1
      have HA := Lib.hid HQ.out.2.1
      have HX := Lib.hid HQ.out.2.2.1
      have HY := Lib.hid HQ.out.2.2.2
      clear HQ
      go_upto_if 92 with (fail)
      go_cut [121] (fun v wc => Aside0 (Below w.heap.size w wc ∧ wc.heap[g1]? = some (.cells #[.int .i64 a1, .int .i64 a2, .int .i64 a3, .int .i64 a4, .int .i64 a5, .int .i64 a6, .int .i64 a7] 23) ∧ wc.heap[g2]? = some (.cells #[.int .i64 b1, .int .i64 b2, .int .i64 b3, .int .i64 b4, .int .i64 b5, .int .i64 b6, .int .i64 b7] 23) ∧ wc.heap[g3]? = some (.cells #[.int .i64 c1, .int .i64 c2, .int .i64 c3, .int .i64 c4, .int .i64 c5, .int .i64 c6, .int .i64 c7] 23)))
      case first =>
        rcases HCB.out with ⟨rfl, hv, z4, z5, z6, z7⟩ | ⟨neb, rfl, rfl, rfl, rfl, rfl, rfl, rfl⟩
        · skip
          have dr := daysV_range b1 b2 b3 b4 b5 b6 b7
          have hpd := print_day2 hv z4 z5 z6 z7
          have HP := Lib.hid hpd.1
          have HR := Lib.hid hpd.2.1
          have H20 := Lib.hid (days_f 30000 (by omega) b1 b2 b3 b4 b5 b6 b7)
          have h22 := (stamp_f 30000 (by omega) b1 b2 b3 b4 b5 b6 b7).trans (congrArg some hpd.2.2)
          clear HCA HCB HCC hv hpd z4 z5 z6 z7
          generalize daysV b1 b2 b3 b4 b5 b6 b7 = D at *
          obtain ⟨SV, hSV⟩ : ∃ v : Int, v = 86400 * D := ⟨_, rfl⟩
          rw [← hSV] at h22
          have H22 := Lib.hid h22
          have WM := Lib.hid (show IntKind.i64.wrap (86400 * D) = SV from by rw [hSV]; exact IntWalk.i64_in _ ⟨by omega, by omega⟩)
          clear dr h22 hSV
          generalize hT_ : plainP b3 ++ dashP b1 b2 = T at *
          clear hT_
          obtain ⟨⟨k0, k1, k2, k3, k4, k5, k6⟩, _⟩ := cells7 HX.out
          go_wp2_with fail
          clear k0 k1 k2 k3 k4 k5 k6
          refine (moment_PrintDay.calls b1 b2 b3 b4 b5 b6 b7 (T) 0 _ HP.out (laid_below HL.out (by repeat (first | (with_reducible exact HB.out) | (with_reducible apply below_drew) | (with_reducible apply pw_below_drewN) | exact HB.out)))).mono ?_
          rintro e y1 ⟨rfl, hb⟩
          have n0_ := Lib.hid (below_step (by repeat (first | (with_reducible exact HB.out) | (with_reducible apply below_drew) | (with_reducible apply pw_below_drewN) | exact HB.out)) hb)
          clear HB
          have HB := n0_
          clear n0_
          have n0_ := Lib.hid ((hb.block _ (blk_lt HA.out)).trans HA.out)
          clear HA
          have HA := n0_
          clear n0_
          have n0_ := Lib.hid ((hb.block _ (blk_lt HX.out)).trans HX.out)
          clear HX
          have HX := n0_
          clear n0_
          have n0_ := Lib.hid ((hb.block _ (blk_lt HY.out)).trans HY.out)
          clear HY
          have HY := n0_
          clear n0_
          clear hb
          go_wp2_with fail
          refine (moment_ReadDay.calls 100 (T) b1 b2 b3 b4 b5 b6 b7 0 _ HR.out (laid_below HL.out (by repeat (first | (with_reducible exact HB.out) | (with_reducible apply below_drew) | (with_reducible apply pw_below_drewN) | exact HB.out)))).mono ?_
          rintro e y2 ⟨rfl, hb⟩
          have n0_ := Lib.hid (below_step (by repeat (first | (with_reducible exact HB.out) | (with_reducible apply below_drew) | (with_reducible apply pw_below_drewN) | exact HB.out)) hb)
          clear HB
          have HB := n0_
          clear n0_
          have n0_ := Lib.hid ((hb.block _ (blk_lt HA.out)).trans HA.out)
          clear HA
          have HA := n0_
          clear n0_
          have n0_ := Lib.hid ((hb.block _ (blk_lt HX.out)).trans HX.out)
          clear HX
          have HX := n0_
          clear n0_
          have n0_ := Lib.hid ((hb.block _ (blk_lt HY.out)).trans HY.out)
          clear HY
          have HY := n0_
          clear n0_
          clear hb
          go_upto_region 16 with fail
          have n1_ := Lib.hid (heap_alloc_new y2 (.cells #[.int .i64 b1, .int .i64 b2, .int .i64 b3, .int .i64 b4, .int .i64 b5, .int .i64 b6, .int .i64 b7] 23))
          have n0_ := Lib.hid ((Below.heap_alloc y2 (.cells #[.int .i64 b1, .int .i64 b2, .int .i64 b3, .int .i64 b4, .int .i64 b5, .int .i64 b6, .int .i64 b7] 23) _ (blk_lt HA.out)).trans HA.out)
          clear HA
          have HA := n0_
          clear n0_
          have n0_ := Lib.hid ((Below.heap_alloc y2 (.cells #[.int .i64 b1, .int .i64 b2, .int .i64 b3, .int .i64 b4, .int .i64 b5, .int .i64 b6, .int .i64 b7] 23) _ (blk_lt HX.out)).trans HX.out)
          clear HX
          have HX := n0_
          clear n0_
          have n0_ := Lib.hid ((Below.heap_alloc y2 (.cells #[.int .i64 b1, .int .i64 b2, .int .i64 b3, .int .i64 b4, .int .i64 b5, .int .i64 b6, .int .i64 b7] 23) _ (blk_lt HY.out)).trans HY.out)
          clear HY
          have HY := n0_
          clear n0_
          have HZ := n1_
          clear n1_
          have n0_ := Lib.hid (below_alloc HB.out (.cells #[.int .i64 b1, .int .i64 b2, .int .i64 b3, .int .i64 b4, .int .i64 b5, .int .i64 b6, .int .i64 b7] 23))
          clear HB
          have HB := n0_
          clear n0_
          generalize y2.alloc (.cells #[.int .i64 b1, .int .i64 b2, .int .i64 b3, .int .i64 b4, .int .i64 b5, .int .i64 b6, .int .i64 b7] 23) = y3 at *
          generalize y2.heap.size = g4 at *
          obtain ⟨⟨k0, k1, k2, k3, k4, k5, k6⟩, _⟩ := cells7 HX.out
          obtain ⟨⟨l0, l1, l2, l3, l4, l5, l6⟩, _⟩ := cells7 HZ.out
          have wm := WM.out
          go_region_held3 (fun w' => w'.cell? ⟨g2, 0, none⟩ = some (.int .i64 b1) ∧ w'.cell? ⟨g2, 1, none⟩ = some (.int .i64 b2) ∧ w'.cell? ⟨g2, 2, none⟩ = some (.int .i64 b3) ∧ w'.cell? ⟨g2, 3, none⟩ = some (.int .i64 b4) ∧ w'.cell? ⟨g2, 4, none⟩ = some (.int .i64 b5) ∧ w'.cell? ⟨g2, 5, none⟩ = some (.int .i64 b6) ∧ w'.cell? ⟨g2, 6, none⟩ = some (.int .i64 b7) ∧ w'.cell? ⟨g4, 0, none⟩ = some (.int .i64 b1) ∧ w'.cell? ⟨g4, 1, none⟩ = some (.int .i64 b2) ∧ w'.cell? ⟨g4, 2, none⟩ = some (.int .i64 b3) ∧ w'.cell? ⟨g4, 3, none⟩ = some (.int .i64 b4) ∧ w'.cell? ⟨g4, 4, none⟩ = some (.int .i64 b5) ∧ w'.cell? ⟨g4, 5, none⟩ = some (.int .i64 b6) ∧ w'.cell? ⟨g4, 6, none⟩ = some (.int .i64 b7)) (go_keep) ((first | (go_at_call 22; (with_reducible refine (moment_Stamp.calls 30000 b1 b2 b3 b4 b5 b6 b7 SV _ H22.out (laid_below HL.out (by repeat (first | (with_reducible exact HB.out) | (with_reducible apply below_drew) | (with_reducible apply pw_below_drewN) | exact HB.out)))).mono ?_); rintro e u22_ ⟨rfl, hb⟩; have n0_ := Lib.hid (below_step (by repeat (first | (with_reducible exact HB.out) | (with_reducible apply below_drew) | (with_reducible apply pw_below_drewN) | exact HB.out)) hb); clear HB; have HB := n0_; clear n0_; have n0_ := Lib.hid (blk_below (g := g1) (o := .cells #[.int .i64 a1, .int .i64 a2, .int .i64 a3, .int .i64 a4, .int .i64 a5, .int .i64 a6, .int .i64 a7] 23 (0, 0)) (by (with_reducible repeat (first | refine blk_drewN ?_ _ | refine blk_drew ?_ | refine blk_alloc ?_ _)); exact HA.out) hb); clear HA; have HA := n0_; clear n0_; have n0_ := Lib.hid (blk_below (g := g2) (o := .cells #[.int .i64 b1, .int .i64 b2, .int .i64 b3, .int .i64 b4, .int .i64 b5, .int .i64 b6, .int .i64 b7] 23 (0, 0)) (by (with_reducible repeat (first | refine blk_drewN ?_ _ | refine blk_drew ?_ | refine blk_alloc ?_ _)); exact HX.out) hb); clear HX; have HX := n0_; clear n0_; have n0_ := Lib.hid (blk_below (g := g3) (o := .cells #[.int .i64 c1, .int .i64 c2, .int .i64 c3, .int .i64 c4, .int .i64 c5, .int .i64 c6, .int .i64 c7] 23 (0, 0)) (by (with_reducible repeat (first | refine blk_drewN ?_ _ | refine blk_drew ?_ | refine blk_alloc ?_ _)); exact HY.out) hb); clear HY; have HY := n0_; clear n0_; have k0 := pw_cell_below hb (a := ⟨g2, 0, none⟩) (v := .int .i64 b1) (by first | assumption | go_simp); have k1 := pw_cell_below hb (a := ⟨g2, 1, none⟩) (v := .int .i64 b2) (by first | assumption | go_simp); have k2 := pw_cell_below hb (a := ⟨g2, 2, none⟩) (v := .int .i64 b3) (by first | assumption | go_simp); have k3 := pw_cell_below hb (a := ⟨g2, 3, none⟩) (v := .int .i64 b4) (by first | assumption | go_simp); have k4 := pw_cell_below hb (a := ⟨g2, 4, none⟩) (v := .int .i64 b5) (by first | assumption | go_simp); have k5 := pw_cell_below hb (a := ⟨g2, 5, none⟩) (v := .int .i64 b6) (by first | assumption | go_simp); have k6 := pw_cell_below hb (a := ⟨g2, 6, none⟩) (v := .int .i64 b7) (by first | assumption | go_simp); have k7 := pw_cell_below hb (a := ⟨g4, 0, none⟩) (v := .int .i64 b1) (by first | assumption | go_simp); have k8 := pw_cell_below hb (a := ⟨g4, 1, none⟩) (v := .int .i64 b2) (by first | assumption | go_simp); have k9 := pw_cell_below hb (a := ⟨g4, 2, none⟩) (v := .int .i64 b3) (by first | assumption | go_simp); have k10 := pw_cell_below hb (a := ⟨g4, 3, none⟩) (v := .int .i64 b4) (by first | assumption | go_simp); have k11 := pw_cell_below hb (a := ⟨g4, 4, none⟩) (v := .int .i64 b5) (by first | assumption | go_simp); have k12 := pw_cell_below hb (a := ⟨g4, 5, none⟩) (v := .int .i64 b6) (by first | assumption | go_simp); have k13 := pw_cell_below hb (a := ⟨g4, 6, none⟩) (v := .int .i64 b7) (by first | assumption | go_simp); clear hb) | (go_at_call 20; (with_reducible refine (moment_Days.calls 30000 b1 b2 b3 b4 b5 b6 b7 D _ H20.out (laid_below HL.out (by repeat (first | (with_reducible exact HB.out) | (with_reducible apply below_drew) | (with_reducible apply pw_below_drewN) | exact HB.out)))).mono ?_); rintro e u20_ ⟨rfl, hb⟩; have n0_ := Lib.hid (below_step (by repeat (first | (with_reducible exact HB.out) | (with_reducible apply below_drew) | (with_reducible apply pw_below_drewN) | exact HB.out)) hb); clear HB; have HB := n0_; clear n0_; have n0_ := Lib.hid (blk_below (g := g1) (o := .cells #[.int .i64 a1, .int .i64 a2, .int .i64 a3, .int .i64 a4, .int .i64 a5, .int .i64 a6, .int .i64 a7] 23 (0, 0)) (by (with_reducible repeat (first | refine blk_drewN ?_ _ | refine blk_drew ?_ | refine blk_alloc ?_ _)); exact HA.out) hb); clear HA; have HA := n0_; clear n0_; have n0_ := Lib.hid (blk_below (g := g2) (o := .cells #[.int .i64 b1, .int .i64 b2, .int .i64 b3, .int .i64 b4, .int .i64 b5, .int .i64 b6, .int .i64 b7] 23 (0, 0)) (by (with_reducible repeat (first | refine blk_drewN ?_ _ | refine blk_drew ?_ | refine blk_alloc ?_ _)); exact HX.out) hb); clear HX; have HX := n0_; clear n0_; have n0_ := Lib.hid (blk_below (g := g3) (o := .cells #[.int .i64 c1, .int .i64 c2, .int .i64 c3, .int .i64 c4, .int .i64 c5, .int .i64 c6, .int .i64 c7] 23 (0, 0)) (by (with_reducible repeat (first | refine blk_drewN ?_ _ | refine blk_drew ?_ | refine blk_alloc ?_ _)); exact HY.out) hb); clear HY; have HY := n0_; clear n0_; have k0 := pw_cell_below hb (a := ⟨g2, 0, none⟩) (v := .int .i64 b1) (by first | assumption | go_simp); have k1 := pw_cell_below hb (a := ⟨g2, 1, none⟩) (v := .int .i64 b2) (by first | assumption | go_simp); have k2 := pw_cell_below hb (a := ⟨g2, 2, none⟩) (v := .int .i64 b3) (by first | assumption | go_simp); have k3 := pw_cell_below hb (a := ⟨g2, 3, none⟩) (v := .int .i64 b4) (by first | assumption | go_simp); have k4 := pw_cell_below hb (a := ⟨g2, 4, none⟩) (v := .int .i64 b5) (by first | assumption | go_simp); have k5 := pw_cell_below hb (a := ⟨g2, 5, none⟩) (v := .int .i64 b6) (by first | assumption | go_simp); have k6 := pw_cell_below hb (a := ⟨g2, 6, none⟩) (v := .int .i64 b7) (by first | assumption | go_simp); have k7 := pw_cell_below hb (a := ⟨g4, 0, none⟩) (v := .int .i64 b1) (by first | assumption | go_simp); have k8 := pw_cell_below hb (a := ⟨g4, 1, none⟩) (v := .int .i64 b2) (by first | assumption | go_simp); have k9 := pw_cell_below hb (a := ⟨g4, 2, none⟩) (v := .int .i64 b3) (by first | assumption | go_simp); have k10 := pw_cell_below hb (a := ⟨g4, 3, none⟩) (v := .int .i64 b4) (by first | assumption | go_simp); have k11 := pw_cell_below hb (a := ⟨g4, 4, none⟩) (v := .int .i64 b5) (by first | assumption | go_simp); have k12 := pw_cell_below hb (a := ⟨g4, 5, none⟩) (v := .int .i64 b6) (by first | assumption | go_simp); have k13 := pw_cell_below hb (a := ⟨g4, 6, none⟩) (v := .int .i64 b7) (by first | assumption | go_simp); clear hb)))
          all_goals go_wp2
          all_goals go_meet
          all_goals exact ⟨(by repeat (first | (with_reducible exact HB.out) | (with_reducible apply below_drew) | (with_reducible apply pw_below_drewN) | exact HB.out)), (by (with_reducible repeat (first | refine blk_drewN ?_ _ | refine blk_drew ?_ | refine blk_alloc ?_ _)); exact HA.out), (by (with_reducible repeat (first | refine blk_drewN ?_ _ | refine blk_drew ?_ | refine blk_alloc ?_ _)); exact HX.out), (by (with_reducible repeat (first | refine blk_drewN ?_ _ | refine blk_drew ?_ | refine blk_alloc ?_ _)); exact HY.out)⟩
        · skip
          clear HCA HCB HCC
          have qeb : (eb != 0) = true := by rw [bne_iff_ne]; exact neb
          have peb : (eb == 0) = false := by rw [beq_eq_false_iff_ne]; exact neb
          go_wp2
          go_meet
          exact ⟨HB.out, HA.out, HX.out, HY.out⟩
      case rest =>
        have HQ := hcut
        clear HB HA HX HY hcut
        have HB := Lib.hid HQ.out.1
        have HA := Lib.hid HQ.out.2.1
        have HX := Lib.hid HQ.out.2.2.1
        have HY := Lib.hid HQ.out.2.2.2
        clear HQ
        go_upto_if 123 with (fail)
        go_cut [144] (fun v wc => Aside0 (Below w.heap.size w wc ∧ wc.heap[g1]? = some (.cells #[.int .i64 a1, .int .i64 a2, .int .i64 a3, .int .i64 a4, .int .i64 a5, .int .i64 a6, .int .i64 a7] 23) ∧ wc.heap[g2]? = some (.cells #[.int .i64 b1, .int .i64 b2, .int .i64 b3, .int .i64 b4, .int .i64 b5, .int .i64 b6, .int .i64 b7] 23) ∧ wc.heap[g3]? = some (.cells #[.int .i64 c1, .int .i64 c2, .int .i64 c3, .int .i64 c4, .int .i64 c5, .int .i64 c6, .int .i64 c7] 23)))
        case first =>
          rcases HCC.out with ⟨rfl, hv⟩ | ⟨nec, rfl, rfl, rfl, rfl, rfl, rfl, rfl⟩
          · skip
            have HP := Lib.hid (print_header hv)
            have HR := Lib.hid (header_back c1 c2 c3 c4 c5 c6 c7 hv)
            clear HCA HCB HCC hv
            generalize hT_ : headerT c1 c2 c3 c4 c5 c6 c7 = T at *
            clear hT_
            obtain ⟨⟨k0, k1, k2, k3, k4, k5, k6⟩, _⟩ := cells7 HY.out
            go_wp2_with fail
            clear k0 k1 k2 k3 k4 k5 k6
            refine (moment_PrintHeader.calls c1 c2 c3 c4 c5 c6 c7 (T) 0 _ HP.out (laid_below HL.out (by repeat (first | (with_reducible exact HB.out) | (with_reducible apply below_drew) | (with_reducible apply pw_below_drewN) | exact HB.out)))).mono ?_
            rintro e z1 ⟨rfl, hb⟩
            have n0_ := Lib.hid (below_step (by repeat (first | (with_reducible exact HB.out) | (with_reducible apply below_drew) | (with_reducible apply pw_below_drewN) | exact HB.out)) hb)
            clear HB
            have HB := n0_
            clear n0_
            have n0_ := Lib.hid ((hb.block _ (blk_lt HA.out)).trans HA.out)
            clear HA
            have HA := n0_
            clear n0_
            have n0_ := Lib.hid ((hb.block _ (blk_lt HX.out)).trans HX.out)
            clear HX
            have HX := n0_
            clear n0_
            have n0_ := Lib.hid ((hb.block _ (blk_lt HY.out)).trans HY.out)
            clear HY
            have HY := n0_
            clear n0_
            clear hb
            go_wp2_with fail
            refine (moment_ReadHeader.calls (T) c1 c2 c3 c4 c5 c6 c7 0 _ HR.out (laid_below HL.out (by repeat (first | (with_reducible exact HB.out) | (with_reducible apply below_drew) | (with_reducible apply pw_below_drewN) | exact HB.out)))).mono ?_
            rintro e z2 ⟨rfl, hb⟩
            have n0_ := Lib.hid (below_step (by repeat (first | (with_reducible exact HB.out) | (with_reducible apply below_drew) | (with_reducible apply pw_below_drewN) | exact HB.out)) hb)
            clear HB
            have HB := n0_
            clear n0_
            have n0_ := Lib.hid ((hb.block _ (blk_lt HA.out)).trans HA.out)
            clear HA
            have HA := n0_
            clear n0_
            have n0_ := Lib.hid ((hb.block _ (blk_lt HX.out)).trans HX.out)
            clear HX
            have HX := n0_
            clear n0_
            have n0_ := Lib.hid ((hb.block _ (blk_lt HY.out)).trans HY.out)
            clear HY
            have HY := n0_
            clear n0_
            clear hb
            go_upto_region 21 with fail
            have n1_ := Lib.hid (heap_alloc_new z2 (.cells #[.int .i64 c1, .int .i64 c2, .int .i64 c3, .int .i64 c4, .int .i64 c5, .int .i64 c6, .int .i64 c7] 23))
            have n0_ := Lib.hid ((Below.heap_alloc z2 (.cells #[.int .i64 c1, .int .i64 c2, .int .i64 c3, .int .i64 c4, .int .i64 c5, .int .i64 c6, .int .i64 c7] 23) _ (blk_lt HA.out)).trans HA.out)
            clear HA
            have HA := n0_
            clear n0_
            have n0_ := Lib.hid ((Below.heap_alloc z2 (.cells #[.int .i64 c1, .int .i64 c2, .int .i64 c3, .int .i64 c4, .int .i64 c5, .int .i64 c6, .int .i64 c7] 23) _ (blk_lt HX.out)).trans HX.out)
            clear HX
            have HX := n0_
            clear n0_
            have n0_ := Lib.hid ((Below.heap_alloc z2 (.cells #[.int .i64 c1, .int .i64 c2, .int .i64 c3, .int .i64 c4, .int .i64 c5, .int .i64 c6, .int .i64 c7] 23) _ (blk_lt HY.out)).trans HY.out)
            clear HY
            have HY := n0_
            clear n0_
            have HZ := n1_
            clear n1_
            have n0_ := Lib.hid (below_alloc HB.out (.cells #[.int .i64 c1, .int .i64 c2, .int .i64 c3, .int .i64 c4, .int .i64 c5, .int .i64 c6, .int .i64 c7] 23))
            clear HB
            have HB := n0_
            clear n0_
            generalize z2.alloc (.cells #[.int .i64 c1, .int .i64 c2, .int .i64 c3, .int .i64 c4, .int .i64 c5, .int .i64 c6, .int .i64 c7] 23) = z3 at *
            generalize z2.heap.size = g4 at *
            obtain ⟨⟨k0, k1, k2, k3, k4, k5, k6⟩, _⟩ := cells7 HY.out
            obtain ⟨⟨l0, l1, l2, l3, l4, l5, l6⟩, _⟩ := cells7 HZ.out
            go_wp2
            go_meet
            exact ⟨HB.out, HA.out, HX.out, HY.out⟩
          · skip
            clear HCA HCB HCC
            have qec : (ec != 0) = true := by rw [bne_iff_ne]; exact nec
            have pec : (ec == 0) = false := by rw [beq_eq_false_iff_ne]; exact nec
            go_wp2
            go_meet
            exact ⟨HB.out, HA.out, HX.out, HY.out⟩
        case rest =>
          have HQ := hcut
          clear HB HA HX HY hcut
          have HB := Lib.hid HQ.out.1
          go_wp2
          go_ret
          exact ⟨rfl, HB.out⟩
def postbaglaw2_MomentRead.f (s : ByteArray) : Option Bool := if s.size ≤ 140737488351232 then some true else none
theorem postbaglaw2_MomentRead.calls (a0 : ByteArray) (r : Bool) (w : World) (h : postbaglaw2_MomentRead.f a0 = some r) (hL : Laid w) :
    Calls Tryd.prog 11 #[.string a0] w fun e w' => e = .returned (.bool r) ∧ Below w.heap.size w w' := by
  unfold postbaglaw2_MomentRead.f at h
  by_cases hs : a0.size ≤ 140737488351232
  · rw [if_pos hs] at h
    obtain rfl : true = r := Option.some.inj h
    exact read_calls a0 w hs hL
  · rw [if_neg hs] at h
    exact absurd h (by simp)
end Go.Proofs.YtjlchnmpebdggaaDoor.Mo
end
section
namespace Go.Proofs.YtjlchnmpebdggaaDoor.Pure
open Go.Proofs.YtjlchnmpebdggaaDoor.Mo
theorem MomentRead (a : ByteArray) (ha : a.size ≤ 140737488351232) : postbaglaw2_MomentRead.f a = some true := if_pos ha
end Go.Proofs.YtjlchnmpebdggaaDoor.Pure
end
section
namespace Go.Proofs.YtjlchnmpebdggaaDoor.Mo
open Go.ChangeShapes Go.WideShapes Go.ChangeAt Go.RowKit
theorem gLengths : Tryd.prog.globalNamed "postbag/moment.lengths" = some 0 := by kernel_rfl
theorem tLengths : (Tryd.prog.globals[0]?).map (·.type) = some 86 := by kernel_rfl
theorem door_met (os : Os) (args : Array Value) : laidMetH Tryd.prog [("postbag/moment.lengths", Rows.laid_postbag_moment_lengths)] ((World.doorLaid Tryd.prog 400 os).forCall (fun _ _ => 0) ⟨#[], args, []⟩).memory :=
  laidMetH_of_parts3 (fuel := 8) (laidMet_of_run' 8 (by kernel_rfl) (by kernel_rfl)) (by kernel_rfl) (by kernel_rfl)
theorem of_laid {W : World} (h : laidMetH Tryd.prog [("postbag/moment.lengths", Rows.laid_postbag_moment_lengths)] W) : Laid W := by
  rw [MakeChecks.laidMetH_plain _ _ _ (by kernel_rfl)] at h
  obtain ⟨ps, ⟨g1, t1, cs1, f1, p1, q1, hg1, ht1, hv1, hd1, _, _⟩, _, _⟩ := h
  obtain rfl := Option.some.inj (gLengths.symm.trans hg1)
  obtain rfl := Option.some.inj (tLengths.symm.trans ht1)
  obtain ⟨xs, m1, rfl, hx1, hlen, hn3, hel⟩ := DataW.trod_array Tryd.underlying86 hd1
  have c3 : Tryd.prog.cellsOf 3 = 1 := by kernel_rfl
  simp only [Prod.mk.injEq, Rows.laid_postbag_moment_lengths, DataW.agg.injEq] at hx1
  have hcell : ∀ j, j < 12 → W.cell? ⟨0, j, none⟩ = some (.int .i64 (monthDays.getD j 0)) := by
    intro j hj
    have hj1 : j < xs.length := by omega
    have he := hel j hj
    rw [List.getElem?_eq_getElem hj1] at he
    obtain ⟨k, e1, e2, _⟩ := DataW.trod_int Tryd.underlying3 he
    have e3 : (xs.map (·.1))[j]? = some (.lit (.int .i64 k)) := by rw [List.getElem?_map, List.getElem?_eq_getElem hj1, e2]; rfl
    rw [← hx1.1] at e3
    have hk : k = monthDays.getD j 0 := by
      have hc : j = 0 ∨ j = 1 ∨ j = 2 ∨ j = 3 ∨ j = 4 ∨ j = 5 ∨ j = 6 ∨ j = 7 ∨ j = 8 ∨ j = 9 ∨ j = 10 ∨ j = 11 := by omega
      rcases hc with rfl | rfl | rfl | rfl | rfl | rfl | rfl | rfl | rfl | rfl | rfl | rfl <;> (simp at e3; rw [← e3]; rfl)
    rw [World.var?_cell hg1 hv1 j]
    rw [c3, Nat.mul_one] at e1
    have e4 : (cs1.toList.drop j)[0]? = some (.int .i64 k) := by
      have := congrArg (fun l => l[0]?) e1
      simpa [List.getElem?_take] using this
    rw [List.getElem?_drop, Nat.add_zero, Array.getElem?_toList] at e4
    rw [e4, hk]
  refine ⟨?_, hcell⟩
  have := hcell 0 (by omega)
  exact World.block_lt_of_cell? W ⟨0, 0, none⟩ this
end Go.Proofs.YtjlchnmpebdggaaDoor.Mo
end
