import Derived.Test.YtjlchnmpebdggaaDoorRds1
import Derived.Test.YtjlchnmpebdggaaDoorRds2
import Derived.Test.YtjlchnmpebdggaaDoorRds4
import Derived.Test.YtjlchnmpebdggaaDoorRds3
import Derived.Test.YtjlchnmpebdggaaDoorRds0
section
namespace Go.Proofs.YtjlchnmpebdggaaDoor.Mo
open Go.RowKit Go.Proofs.YtjlchnmpebdggaaDoorW.PrintWords Go.Proofs.YtjlchnmpebdggaaDoorW.PrintLast Go.Proofs.YtjlchnmpebdggaaDoorW.PrintMore
attribute [local go_sem] max2_int min2_int max_two min_two max_three min_three max_four min_four   -- for this text's walks alone
set_option linter.unusedVariables false
set_option linter.unusedSimpArgs false
def moment_ReadDay.j0 : Nat → ByteArray → Int → Bool → Option (Int × Int × Int × Int × Int × Int × Int × Int)
 | 0, _, _, _ => none
 | k + 1, x0, x4, x17 => if x17 = true then ((moment_read.f 0 0 0 0 0 0 0 false).bind fun bt315 => (some (bt315.1, bt315.2.1, bt315.2.2.1, bt315.2.2.2.1, bt315.2.2.2.2.1, bt315.2.2.2.2.2.1, bt315.2.2.2.2.2.2.1, bt315.2.2.2.2.2.2.2))) else (if 0 ≤ x4 then (if x4 ≤ (x0.size : Int) then ((moment_digits.f k (x0.extract 0 (x4 : Int).toNat)).bind fun bt323 => ((moment_day.f bt323.1 (x0.extract (x4 : Int).toNat x0.size)).bind fun bt325 => (if bt323.2 = true then ((moment_read.f bt325.1 bt325.2.1 bt325.2.2.1 bt325.2.2.2.1 bt325.2.2.2.2.1 bt325.2.2.2.2.2.1 bt325.2.2.2.2.2.2.1 bt325.2.2.2.2.2.2.2).bind fun bt334 => (some (bt334.1, bt334.2.1, bt334.2.2.1, bt334.2.2.2.1, bt334.2.2.2.2.1, bt334.2.2.2.2.2.1, bt334.2.2.2.2.2.2.1, bt334.2.2.2.2.2.2.2))) else ((moment_read.f bt325.1 bt325.2.1 bt325.2.2.1 bt325.2.2.2.1 bt325.2.2.2.2.1 bt325.2.2.2.2.2.1 bt325.2.2.2.2.2.2.1 false).bind fun bt342 => (some (bt342.1, bt342.2.1, bt342.2.2.1, bt342.2.2.2.1, bt342.2.2.2.2.1, bt342.2.2.2.2.2.1, bt342.2.2.2.2.2.2.1, bt342.2.2.2.2.2.2.2)))))) else (none)) else (none))
def moment_ReadDay.f (k : Nat) (a0 : ByteArray) : Option (Int × Int × Int × Int × Int × Int × Int × Int) := if (wrap64 ((a0.size : Int) - 9)) = 1 then (moment_ReadDay.j0 k a0 (wrap64 ((a0.size : Int) - 9)) false) else (moment_ReadDay.j0 k a0 (wrap64 ((a0.size : Int) - 9)) ((wrap64 ((a0.size : Int) - 9)) != 2))
set_option maxHeartbeats 8000000 in
set_option maxRecDepth 100000 in
theorem moment_ReadDay.calls (k : Nat) (a0 : ByteArray) (r1 : Int) (r2 : Int) (r3 : Int) (r4 : Int) (r5 : Int) (r6 : Int) (r7 : Int) (r8 : Int) (w : World) (h : moment_ReadDay.f k a0 = some (r1, r2, r3, r4, r5, r6, r7, r8)) (hL_ : Laid w) :
  Calls Tryd.prog 31 #[.string a0] w fun e w' => e = .returned (.tuple #[.agg #[.int .i64 r1, .int .i64 r2, .int .i64 r3, .int .i64 r4, .int .i64 r5, .int .i64 r6, .int .i64 r7], .int .i64 r8]) ∧ Below w.heap.size w w' := by
 have HL_ := Aside0.mk hL_
 clear hL_
 have hu23 := Tryd.underlying23
 have HB := Aside0.mk (Below.refl w.heap.size w)
 have H : (if (wrap64 ((a0.size : Int) - 9)) = 1 then (moment_ReadDay.j0 k a0 (wrap64 ((a0.size : Int) - 9)) false) else (moment_ReadDay.j0 k a0 (wrap64 ((a0.size : Int) - 9)) ((wrap64 ((a0.size : Int) - 9)) != 2))) = some (r1, r2, r3, r4, r5, r6, r7, r8) := h
 clear h
 have HC2 := Aside0.mk H
 clear H
 go_enter Tryd.func31, Tryd.ntmps31
 go_upto_region 2 with (first | ((with_reducible refine gate_dst (N := 2) rfl ?_); refine box_event ?hg (N := 2) ?hd (cs := #[.int .i64 0, .int .i64 0, .int .i64 0, .int .i64 0, .int .i64 0, .int .i64 0, .int .i64 0]) (t := 23) ?hr ?_; (case hd => rfl); (case hg => rfl); (case hr => first | (go_simp; done) | (go_simp; rfl)); intro gb314 hg w3 hbox hb; have n0_ := Aside0.mk (below_step (by repeat (first | (with_reducible first | exact HB.out | apply below_alloc | apply pw_below_drewN | apply below_drew1 | refine below_set ?_ GW333.out) | exact HB.out)) hb); have n1_ := Aside0.mk (hbox); have n2_ := Aside0.mk ((by rw [hg]; exact (below_size (by repeat (first | (with_reducible first | exact HB.out | apply below_alloc | apply pw_below_drewN | apply below_drew1 | refine below_set ?_ GW333.out) | exact HB.out))) : w.heap.size ≤ gb314)); have n3_ := Aside0.mk ((by rw [hg]; exact (below_size (by repeat (first | (with_reducible first | exact HB.out | apply below_alloc | apply pw_below_drewN | apply below_drew1 | refine below_set ?_ GW333.out) | exact HB.out))) : w.heap.size ≤ gb314)); clear HB; have HB := n0_; have BK314 := n1_; have GW314 := n2_; have GE314 := n3_; clear n0_ n1_ n2_ n3_; clear hb hbox hg))
 (try simp only [Act.put, s1_, s2_, s3_])
 go_cut [17] (fun v17 wc => ∃ (kq : Nat) (x17_1 : Bool), v17 = .bool x17_1 ∧ Aside0 (moment_ReadDay.j0 kq a0 (wrap64 ((a0.size : Int) - 9)) x17_1 = some (r1, r2, r3, r4, r5, r6, r7, r8)) ∧ Aside0 (kq ≤ k) ∧ Aside0 (wc.heap[gb314]? = some (.cells #[.int .i64 0, .int .i64 0, .int .i64 0, .int .i64 0, .int .i64 0, .int .i64 0, .int .i64 0] 23 (0, 0))) ∧ Aside0 (Below w.heap.size w wc))
 case first =>
  have H := HC2.out
  clear HC2
  by_cases c4 : (wrap64 ((a0.size : Int) - 9)) = 1
  ·rw [if_pos c4] at H
   have c4b0 : ((wrap64 ((a0.size : Int) - 9)) == 1) = true := beq_iff_eq.mpr c4
   have c4b1 : ((wrap64 ((a0.size : Int) - 9)) != 1) = false := bne_eq_false_iff_eq.mpr c4
   clear c4
   (first | rw [c4b0] | (simp only [i64_w, i32_w]; rw [c4b0]) | skip)
   have H' := Aside0.mk H
   clear H
   go_wp2
   go_meet
   case rel => exact ⟨_, (false), (by first | rfl | (simp; done) | (simp [*]; done)), H', ⟨by first | omega | exact Nat.le_refl _⟩, ⟨by (with_reducible repeat (first | refine blk_drewN ?_ _ | refine blk_drew ?_ | refine blk_alloc ?_ _)); exact BK314.out⟩, ⟨by repeat (first | (with_reducible first | exact HB.out | apply below_alloc | apply pw_below_drewN | apply below_drew1 | refine below_set ?_ GE314.out) | exact HB.out)⟩⟩
  ·rw [if_neg c4] at H
   have c4b0 : ((wrap64 ((a0.size : Int) - 9)) == 1) = false := beq_eq_false_iff_ne.mpr c4
   have c4b1 : ((wrap64 ((a0.size : Int) - 9)) != 1) = true := bne_iff_ne.mpr c4
   (first | rw [c4b0] | (simp only [i64_w, i32_w]; rw [c4b0]) | skip)
   have H' := Aside0.mk H
   clear H
   go_wp2
   go_meet
   case rel => exact ⟨_, (((wrap64 ((a0.size : Int) - 9)) != 2)), (by first | rfl | (simp; done) | (simp [*]; done)), H', ⟨by first | omega | exact Nat.le_refl _⟩, ⟨by (with_reducible repeat (first | refine blk_drewN ?_ _ | refine blk_drew ?_ | refine blk_alloc ?_ _)); exact BK314.out⟩, ⟨by repeat (first | (with_reducible first | exact HB.out | apply below_alloc | apply pw_below_drewN | apply below_drew1 | refine below_set ?_ GE314.out) | exact HB.out)⟩⟩
 case rest =>
  clear HC2
  try clear p2
  try clear c3
  try clear c4
  try clear c4b0
  try clear c4b1
  obtain ⟨kq, x17_1, rfl, HA, HJ1, BK314, HB⟩ := hcut
  cases kq with
  | zero => exact absurd HA.out (by simp [moment_ReadDay.j0])
  | succ kj1 =>
   have H := HA.out
   clear HA
   simp only [moment_ReadDay.j0] at H
   by_cases c5 : x17_1 = true
   ·subst c5
    have H1 : ((moment_read.f 0 0 0 0 0 0 0 false).bind fun bt315 => (some (bt315.1, bt315.2.1, bt315.2.2.1, bt315.2.2.2.1, bt315.2.2.2.2.1, bt315.2.2.2.2.2.1, bt315.2.2.2.2.2.2.1, bt315.2.2.2.2.2.2.2))) = some (r1, r2, r3, r4, r5, r6, r7, r8) := by rw [if_pos rfl] at H; exact H
    clear H
    have H := H1
    clear H1
    replace H := Option.bind_eq_some_iff.mp H
    obtain ⟨⟨t315, t316, t317, t318, t319, t320, t321, t322⟩, A60, H⟩ := H
    replace H : (some (t315, t316, t317, t318, t319, t320, t321, t322)) = some (r1, r2, r3, r4, r5, r6, r7, r8) := H
    have A6 := Aside0.mk A60
    clear A60
    simp only [Option.some.injEq, Prod.mk.injEq] at H
    obtain ⟨rfl, rfl, rfl, rfl, rfl, rfl, rfl, rfl⟩ := H
    go_wp2_with (first | ((with_reducible refine gate_callee (f := 60) rfl ?_); refine goesL_ (some 19) rfl rfl Tryd.func60 (by kernel_rfl) rfl #[.agg #[.int .i64 0, .int .i64 0, .int .i64 0, .int .i64 0, .int .i64 0, .int .i64 0, .int .i64 0], .bool false] rfl (by (try simp only [List.map_toArray, List.map_cons, List.map_nil]); first | done | rfl | (simp only [List.length_drop, List.length_take]; rfl)) ?_; (with_reducible refine (moment_read.calls 0 0 0 0 0 0 0 false t315 t316 t317 t318 t319 t320 t321 t322 _ A6.out (by first | exact laid_below HL_.out (by repeat (first | (with_reducible first | exact HB.out | apply below_alloc | apply pw_below_drewN | apply below_drew1 | refine below_set ?_ GW333.out) | exact HB.out)) | exact laid_drawn HL_.out (by repeat (first | exact Drawn0.refl _ | apply Drawn0.step)))).mono ?_); rintro e w7 ⟨rfl, hb⟩; refine ⟨_, rfl, ?_⟩; have n0_ := Aside0.mk (blk_below (g := gb314) (o := .cells #[.int .i64 0, .int .i64 0, .int .i64 0, .int .i64 0, .int .i64 0, .int .i64 0, .int .i64 0] 23 (0, 0)) (by (with_reducible repeat (first | refine blk_drewN ?_ _ | refine blk_drew ?_ | refine blk_alloc ?_ _)); exact BK314.out) hb); have n1_ := Aside0.mk (below_step (by repeat (first | (with_reducible first | exact HB.out | apply below_alloc | apply pw_below_drewN | apply below_drew1 | refine below_set ?_ GE314.out) | exact HB.out)) hb); clear BK314; clear HB; have BK314 := n0_; have HB := n1_; clear n0_ n1_; (try clear hb); (try clear hb2); (try clear hk); (try clear hi); have hcz8_0 : w7.cell? ⟨gb314, 0, none⟩ = some (.int .i64 0) := (blk_cell BK314.out 0).trans rfl; have hcz8_1 : w7.cell? ⟨gb314, 1, none⟩ = some (.int .i64 0) := (blk_cell BK314.out 1).trans rfl; have hcz8_2 : w7.cell? ⟨gb314, 2, none⟩ = some (.int .i64 0) := (blk_cell BK314.out 2).trans rfl; have hcz8_3 : w7.cell? ⟨gb314, 3, none⟩ = some (.int .i64 0) := (blk_cell BK314.out 3).trans rfl; have hcz8_4 : w7.cell? ⟨gb314, 4, none⟩ = some (.int .i64 0) := (blk_cell BK314.out 4).trans rfl; have hcz8_5 : w7.cell? ⟨gb314, 5, none⟩ = some (.int .i64 0) := (blk_cell BK314.out 5).trans rfl; have hcz8_6 : w7.cell? ⟨gb314, 6, none⟩ = some (.int .i64 0) := (blk_cell BK314.out 6).trans rfl; have hfz8_0 := blk_frozen BK314.out 0; have hfz8_1 := blk_frozen BK314.out 1; have hfz8_2 := blk_frozen BK314.out 2; have hfz8_3 := blk_frozen BK314.out 3; have hfz8_4 := blk_frozen BK314.out 4; have hfz8_5 := blk_frozen BK314.out 5; have hfz8_6 := blk_frozen BK314.out 6))
    refine bodyPost_ret (results_ct rfl _ _ gb314 23 #[.int .i64 t315, .int .i64 t316, .int .i64 t317, .int .i64 t318, .int .i64 t319, .int .i64 t320, .int .i64 t321] (0, 0) _ rfl (by (with_reducible repeat (first | refine blk_drewN ?_ _ | refine blk_drew ?_ | refine blk_alloc ?_ _)); refine blk_put (cs := #[.int .i64 t315, .int .i64 t316, .int .i64 t317, .int .i64 t318, .int .i64 t319, .int .i64 t320, .int .i64 0]) ?_ 6 _ rfl; (with_reducible repeat (first | refine blk_drewN ?_ _ | refine blk_drew ?_ | refine blk_alloc ?_ _)); refine blk_put (cs := #[.int .i64 t315, .int .i64 t316, .int .i64 t317, .int .i64 t318, .int .i64 t319, .int .i64 0, .int .i64 0]) ?_ 5 _ rfl; (with_reducible repeat (first | refine blk_drewN ?_ _ | refine blk_drew ?_ | refine blk_alloc ?_ _)); refine blk_put (cs := #[.int .i64 t315, .int .i64 t316, .int .i64 t317, .int .i64 t318, .int .i64 0, .int .i64 0, .int .i64 0]) ?_ 4 _ rfl; (with_reducible repeat (first | refine blk_drewN ?_ _ | refine blk_drew ?_ | refine blk_alloc ?_ _)); refine blk_put (cs := #[.int .i64 t315, .int .i64 t316, .int .i64 t317, .int .i64 0, .int .i64 0, .int .i64 0, .int .i64 0]) ?_ 3 _ rfl; (with_reducible repeat (first | refine blk_drewN ?_ _ | refine blk_drew ?_ | refine blk_alloc ?_ _)); refine blk_put (cs := #[.int .i64 t315, .int .i64 t316, .int .i64 0, .int .i64 0, .int .i64 0, .int .i64 0, .int .i64 0]) ?_ 2 _ rfl; (with_reducible repeat (first | refine blk_drewN ?_ _ | refine blk_drew ?_ | refine blk_alloc ?_ _)); refine blk_put (cs := #[.int .i64 t315, .int .i64 0, .int .i64 0, .int .i64 0, .int .i64 0, .int .i64 0, .int .i64 0]) ?_ 1 _ rfl; (with_reducible repeat (first | refine blk_drewN ?_ _ | refine blk_drew ?_ | refine blk_alloc ?_ _)); refine blk_put (cs := #[.int .i64 0, .int .i64 0, .int .i64 0, .int .i64 0, .int .i64 0, .int .i64 0, .int .i64 0]) ?_ 0 _ rfl; (with_reducible repeat (first | refine blk_drewN ?_ _ | refine blk_drew ?_ | refine blk_alloc ?_ _)); exact BK314.out) Tryd.underlying23 rfl (by kernel_rfl)) rfl ?_
    exact ⟨by first | rfl | (simp [errW_none, errW_some] <;> rfl) | (simp [*, errW_none, errW_some] <;> rfl), by repeat (first | (with_reducible first | exact HB.out | apply below_alloc | apply pw_below_drewN | apply below_drew1 | refine below_set ?_ GE314.out) | exact HB.out)⟩
   ·replace c5 := Bool.eq_false_iff.mpr c5
    subst c5
    have H1 : (if 0 ≤ (wrap64 ((a0.size : Int) - 9)) then (if (wrap64 ((a0.size : Int) - 9)) ≤ (a0.size : Int) then ((moment_digits.f kj1 (a0.extract 0 ((wrap64 ((a0.size : Int) - 9)) : Int).toNat)).bind fun bt323 => ((moment_day.f bt323.1 (a0.extract ((wrap64 ((a0.size : Int) - 9)) : Int).toNat a0.size)).bind fun bt325 => (if bt323.2 = true then ((moment_read.f bt325.1 bt325.2.1 bt325.2.2.1 bt325.2.2.2.1 bt325.2.2.2.2.1 bt325.2.2.2.2.2.1 bt325.2.2.2.2.2.2.1 bt325.2.2.2.2.2.2.2).bind fun bt334 => (some (bt334.1, bt334.2.1, bt334.2.2.1, bt334.2.2.2.1, bt334.2.2.2.2.1, bt334.2.2.2.2.2.1, bt334.2.2.2.2.2.2.1, bt334.2.2.2.2.2.2.2))) else ((moment_read.f bt325.1 bt325.2.1 bt325.2.2.1 bt325.2.2.2.1 bt325.2.2.2.2.1 bt325.2.2.2.2.2.1 bt325.2.2.2.2.2.2.1 false).bind fun bt342 => (some (bt342.1, bt342.2.1, bt342.2.2.1, bt342.2.2.2.1, bt342.2.2.2.2.1, bt342.2.2.2.2.2.1, bt342.2.2.2.2.2.2.1, bt342.2.2.2.2.2.2.2)))))) else (none)) else (none)) = some (r1, r2, r3, r4, r5, r6, r7, r8) := by rw [if_neg (show ¬ (false = true) by decide)] at H; exact H
    clear H
    have H := H1
    clear H1
    obtain ⟨ji9, hji9⟩ : ∃ j_ : Int, (wrap64 ((a0.size : Int) - 9)) = j_ := ⟨_, rfl⟩
    replace H : (if 0 ≤ (ji9) then (if (ji9) ≤ (a0.size : Int) then ((moment_digits.f kj1 (a0.extract 0 ((ji9) : Int).toNat)).bind fun bt323 => ((moment_day.f bt323.1 (a0.extract ((ji9) : Int).toNat a0.size)).bind fun bt325 => (if bt323.2 = true then ((moment_read.f bt325.1 bt325.2.1 bt325.2.2.1 bt325.2.2.2.1 bt325.2.2.2.2.1 bt325.2.2.2.2.2.1 bt325.2.2.2.2.2.2.1 bt325.2.2.2.2.2.2.2).bind fun bt334 => (some (bt334.1, bt334.2.1, bt334.2.2.1, bt334.2.2.2.1, bt334.2.2.2.2.1, bt334.2.2.2.2.2.1, bt334.2.2.2.2.2.2.1, bt334.2.2.2.2.2.2.2))) else ((moment_read.f bt325.1 bt325.2.1 bt325.2.2.1 bt325.2.2.2.1 bt325.2.2.2.2.1 bt325.2.2.2.2.2.1 bt325.2.2.2.2.2.2.1 false).bind fun bt342 => (some (bt342.1, bt342.2.1, bt342.2.2.1, bt342.2.2.2.1, bt342.2.2.2.2.1, bt342.2.2.2.2.2.1, bt342.2.2.2.2.2.2.1, bt342.2.2.2.2.2.2.2)))))) else (none)) else (none)) = some (r1, r2, r3, r4, r5, r6, r7, r8) := by first | (rw [hji9] at H; exact H) | (simp only [hji9] at H ⊢; exact H)
    have hji9w : (IntKind.i64.wrap ((a0.size : Int) - 9)) = ji9 := (i64_w _).trans hji9
    by_cases c10 : 0 ≤ (ji9)
    ·rw [if_pos c10] at H
     have c10b0 := eq_true c10
     have c10b1 : decide (0 ≤ (ji9)) = true := decide_eq_true c10
     clear c10
     by_cases c11 : (ji9) ≤ (a0.size : Int)
     ·rw [if_pos c11] at H
      have c11b0 := eq_true c11
      have c11b1 : decide ((ji9) ≤ (a0.size : Int)) = true := decide_eq_true c11
      clear c11
      replace H := Option.bind_eq_some_iff.mp H
      obtain ⟨⟨t323, t324⟩, A120, H⟩ := H
      replace H : ((moment_day.f t323 (a0.extract ((ji9) : Int).toNat a0.size)).bind fun bt325 => (if t324 = true then ((moment_read.f bt325.1 bt325.2.1 bt325.2.2.1 bt325.2.2.2.1 bt325.2.2.2.2.1 bt325.2.2.2.2.2.1 bt325.2.2.2.2.2.2.1 bt325.2.2.2.2.2.2.2).bind fun bt334 => (some (bt334.1, bt334.2.1, bt334.2.2.1, bt334.2.2.2.1, bt334.2.2.2.2.1, bt334.2.2.2.2.2.1, bt334.2.2.2.2.2.2.1, bt334.2.2.2.2.2.2.2))) else ((moment_read.f bt325.1 bt325.2.1 bt325.2.2.1 bt325.2.2.2.1 bt325.2.2.2.2.1 bt325.2.2.2.2.2.1 bt325.2.2.2.2.2.2.1 false).bind fun bt342 => (some (bt342.1, bt342.2.1, bt342.2.2.1, bt342.2.2.2.1, bt342.2.2.2.2.1, bt342.2.2.2.2.2.1, bt342.2.2.2.2.2.2.1, bt342.2.2.2.2.2.2.2))))) = some (r1, r2, r3, r4, r5, r6, r7, r8) := H
      have A12 := Aside0.mk A120
      clear A120
      have c13b0 := eq_true (of_decide_eq_true (by first | (with_reducible assumption) | assumption) : 0 ≤ (ji9))
      have c14b0 := eq_true (of_decide_eq_true (by first | (with_reducible assumption) | assumption) : (ji9) ≤ (a0.size : Int))
      replace H := Option.bind_eq_some_iff.mp H
      obtain ⟨⟨t325, t326, t327, t328, t329, t330, t331, t332⟩, A150, H⟩ := H
      replace H : (if t324 = true then ((moment_read.f t325 t326 t327 t328 t329 t330 t331 t332).bind fun bt334 => (some (bt334.1, bt334.2.1, bt334.2.2.1, bt334.2.2.2.1, bt334.2.2.2.2.1, bt334.2.2.2.2.2.1, bt334.2.2.2.2.2.2.1, bt334.2.2.2.2.2.2.2))) else ((moment_read.f t325 t326 t327 t328 t329 t330 t331 false).bind fun bt342 => (some (bt342.1, bt342.2.1, bt342.2.2.1, bt342.2.2.2.1, bt342.2.2.2.2.1, bt342.2.2.2.2.2.1, bt342.2.2.2.2.2.2.1, bt342.2.2.2.2.2.2.2)))) = some (r1, r2, r3, r4, r5, r6, r7, r8) := H
      have A15 := Aside0.mk A150
      clear A150
      by_cases c16 : t324 = true
      ·subst c16
       have H1 : ((moment_read.f t325 t326 t327 t328 t329 t330 t331 t332).bind fun bt334 => (some (bt334.1, bt334.2.1, bt334.2.2.1, bt334.2.2.2.1, bt334.2.2.2.2.1, bt334.2.2.2.2.2.1, bt334.2.2.2.2.2.2.1, bt334.2.2.2.2.2.2.2))) = some (r1, r2, r3, r4, r5, r6, r7, r8) := by rw [if_pos rfl] at H; exact H
       clear H
       have H := H1
       clear H1
       replace H := Option.bind_eq_some_iff.mp H
       obtain ⟨⟨t334, t335, t336, t337, t338, t339, t340, t341⟩, A170, H⟩ := H
       replace H : (some (t334, t335, t336, t337, t338, t339, t340, t341)) = some (r1, r2, r3, r4, r5, r6, r7, r8) := H
       have A17 := Aside0.mk A170
       clear A170
       simp only [Option.some.injEq, Prod.mk.injEq] at H
       obtain ⟨rfl, rfl, rfl, rfl, rfl, rfl, rfl, rfl⟩ := H
       go_wp2_with (first | ((with_reducible refine gate_callee (f := 68) rfl ?_); refine goesL_ (some 26) rfl rfl Tryd.func68 (by kernel_rfl) rfl #[.string (a0.extract 0 ((ji9) : Int).toNat)] rfl (by (try simp only [List.map_toArray, List.map_cons, List.map_nil]); first | done | (simp only [hji9]; rfl) | rfl | (simp only [List.length_drop, List.length_take]; rfl)) ?_; (with_reducible refine (moment_digits.calls kj1 (a0.extract 0 ((ji9) : Int).toNat) t323 true _ A12.out).mono ?_); rintro e w' ⟨rfl, ⟨nd, rfl⟩⟩; refine ⟨_, rfl, ?_⟩; (try (rw [drewN_self wc]; generalize hq_ : World.drewN wc _ = wc; have n0_ : Aside0 (wc.heap[gb314]? = some (.cells #[.int .i64 0, .int .i64 0, .int .i64 0, .int .i64 0, .int .i64 0, .int .i64 0, .int .i64 0] 23 (0, 0))) := ⟨by rw [← hq_]; exact (by (with_reducible repeat (first | refine blk_drewN ?_ _ | refine blk_drew ?_ | refine blk_alloc ?_ _)); exact BK314.out)⟩; have n1_ : Aside0 (Below w.heap.size w wc) := ⟨by rw [← hq_]; exact (by repeat (first | (with_reducible first | exact HB.out | apply below_alloc | apply pw_below_drewN | apply below_drew1 | refine below_set ?_ GE314.out) | exact HB.out))⟩; clear BK314 HB hq_; have BK314 := n0_; have HB := n1_; clear n0_ n1_))) | ((with_reducible refine gate_callee (f := 69) rfl ?_); refine goesL_ (some 34) rfl rfl Tryd.func69 (by kernel_rfl) rfl #[.int .i64 t323, .string (a0.extract ((ji9) : Int).toNat a0.size)] rfl (by (try simp only [List.map_toArray, List.map_cons, List.map_nil]); first | done | (simp only [hji9]; rfl) | rfl | (simp only [List.length_drop, List.length_take]; rfl)) ?_; (with_reducible refine (moment_day.calls t323 (a0.extract ((ji9) : Int).toNat a0.size) t325 t326 t327 t328 t329 t330 t331 t332 _ A15.out).mono ?_); rintro e w18 ⟨rfl, hb⟩; refine ⟨_, rfl, ?_⟩; have n0_ := Aside0.mk (blk_below (g := gb314) (o := .cells #[.int .i64 0, .int .i64 0, .int .i64 0, .int .i64 0, .int .i64 0, .int .i64 0, .int .i64 0] 23 (0, 0)) (by (with_reducible repeat (first | refine blk_drewN ?_ _ | refine blk_drew ?_ | refine blk_alloc ?_ _)); exact BK314.out) hb); have n1_ := Aside0.mk (below_step (by repeat (first | (with_reducible first | exact HB.out | apply below_alloc | apply pw_below_drewN | apply below_drew1 | refine below_set ?_ GE314.out) | exact HB.out)) hb); clear BK314; clear HB; have BK314 := n0_; have HB := n1_; clear n0_ n1_; (try clear hb); (try clear hb2); (try clear hk); (try clear hi)) | ((with_reducible refine gate_dst (N := 7) rfl ?_); refine box_event ?hg (N := 7) ?hd (cs := #[.int .i64 0, .int .i64 0, .int .i64 0, .int .i64 0, .int .i64 0, .int .i64 0, .int .i64 0]) (t := 23) ?hr ?_; (case hd => rfl); (case hg => rfl); (case hr => first | (go_simp; done) | (go_simp; rfl)); intro gb333 hg w19 hbox hb; have n0_ := Aside0.mk (blk_below (g := gb314) (o := .cells #[.int .i64 0, .int .i64 0, .int .i64 0, .int .i64 0, .int .i64 0, .int .i64 0, .int .i64 0] 23 (0, 0)) (by (with_reducible repeat (first | refine blk_drewN ?_ _ | refine blk_drew ?_ | refine blk_alloc ?_ _)); exact BK314.out) hb); have n1_ := Aside0.mk (below_step (by repeat (first | (with_reducible first | exact HB.out | apply below_alloc | apply pw_below_drewN | apply below_drew1 | refine below_set ?_ GE314.out) | exact HB.out)) hb); have n2_ := Aside0.mk (hbox); have n3_ := Aside0.mk ((by rw [hg]; exact (below_size (by repeat (first | (with_reducible first | exact HB.out | apply below_alloc | apply pw_below_drewN | apply below_drew1 | refine below_set ?_ GE314.out) | exact HB.out))) : w.heap.size ≤ gb333)); have n4_ := Aside0.mk ((by rw [hg]; exact (below_size (by repeat (first | (with_reducible first | exact HB.out | apply below_alloc | apply pw_below_drewN | apply below_drew1 | refine below_set ?_ GE314.out) | exact HB.out))) : w.heap.size ≤ gb333)); have n5_ := Aside0.mk ((by rw [hg]; exact Nat.ne_of_lt (blk_lt (g := gb314) (o := .cells #[.int .i64 0, .int .i64 0, .int .i64 0, .int .i64 0, .int .i64 0, .int .i64 0, .int .i64 0] 23 (0, 0)) (by (with_reducible repeat (first | refine blk_drewN ?_ _ | refine blk_drew ?_ | refine blk_alloc ?_ _)); exact BK314.out)) : gb314 ≠ gb333)); have n6_ := Aside0.mk ((by rw [hg]; exact Nat.ne_of_gt (blk_lt (g := gb314) (o := .cells #[.int .i64 0, .int .i64 0, .int .i64 0, .int .i64 0, .int .i64 0, .int .i64 0, .int .i64 0] 23 (0, 0)) (by (with_reducible repeat (first | refine blk_drewN ?_ _ | refine blk_drew ?_ | refine blk_alloc ?_ _)); exact BK314.out)) : gb333 ≠ gb314)); clear BK314; clear HB; have BK314 := n0_; have HB := n1_; have BK333 := n2_; have GW333 := n3_; have GE333 := n4_; have NB314_333 := n5_; have NB333_314 := n6_; clear n0_ n1_ n2_ n3_ n4_ n5_ n6_; clear hb hbox hg; have hnb20 := NB333_314.out; have hnc20 := NB314_333.out; have hcz21_0 : w19.cell? ⟨gb333, 0, none⟩ = some (.int .i64 0) := (blk_cell BK333.out 0).trans rfl; have hcz21_1 : w19.cell? ⟨gb333, 1, none⟩ = some (.int .i64 0) := (blk_cell BK333.out 1).trans rfl; have hcz21_2 : w19.cell? ⟨gb333, 2, none⟩ = some (.int .i64 0) := (blk_cell BK333.out 2).trans rfl; have hcz21_3 : w19.cell? ⟨gb333, 3, none⟩ = some (.int .i64 0) := (blk_cell BK333.out 3).trans rfl; have hcz21_4 : w19.cell? ⟨gb333, 4, none⟩ = some (.int .i64 0) := (blk_cell BK333.out 4).trans rfl; have hcz21_5 : w19.cell? ⟨gb333, 5, none⟩ = some (.int .i64 0) := (blk_cell BK333.out 5).trans rfl; have hcz21_6 : w19.cell? ⟨gb333, 6, none⟩ = some (.int .i64 0) := (blk_cell BK333.out 6).trans rfl; have hfz21_0 := blk_frozen BK333.out 0; have hfz21_1 := blk_frozen BK333.out 1; have hfz21_2 := blk_frozen BK333.out 2; have hfz21_3 := blk_frozen BK333.out 3; have hfz21_4 := blk_frozen BK333.out 4; have hfz21_5 := blk_frozen BK333.out 5; have hfz21_6 := blk_frozen BK333.out 6) | ((with_reducible refine gate_callee (f := 60) rfl ?_); refine goesL_ (some 42) rfl rfl Tryd.func60 (by kernel_rfl) rfl #[.agg #[.int .i64 t325, .int .i64 t326, .int .i64 t327, .int .i64 t328, .int .i64 t329, .int .i64 t330, .int .i64 t331], .bool t332] rfl (by (try simp only [List.map_toArray, List.map_cons, List.map_nil]); first | done | rfl | (simp only [List.length_drop, List.length_take]; rfl)) ?_; (with_reducible refine (moment_read.calls t325 t326 t327 t328 t329 t330 t331 t332 t334 t335 t336 t337 t338 t339 t340 t341 _ A17.out (by first | exact laid_below HL_.out (by repeat (first | (with_reducible first | exact HB.out | apply below_alloc | apply pw_below_drewN | apply below_drew1 | refine below_set ?_ GW333.out) | exact HB.out)) | exact laid_drawn HL_.out (by repeat (first | exact Drawn0.refl _ | apply Drawn0.step)))).mono ?_); rintro e w22 ⟨rfl, hb⟩; refine ⟨_, rfl, ?_⟩; have n0_ := Aside0.mk (blk_below (g := gb314) (o := .cells #[.int .i64 0, .int .i64 0, .int .i64 0, .int .i64 0, .int .i64 0, .int .i64 0, .int .i64 0] 23 (0, 0)) (by (with_reducible repeat (first | refine blk_drewN ?_ _ | refine blk_drew ?_ | refine blk_alloc ?_ _)); refine blk_far ?_ NB314_333.out _; (with_reducible repeat (first | refine blk_drewN ?_ _ | refine blk_drew ?_ | refine blk_alloc ?_ _)); refine blk_far ?_ NB314_333.out _; (with_reducible repeat (first | refine blk_drewN ?_ _ | refine blk_drew ?_ | refine blk_alloc ?_ _)); refine blk_far ?_ NB314_333.out _; (with_reducible repeat (first | refine blk_drewN ?_ _ | refine blk_drew ?_ | refine blk_alloc ?_ _)); refine blk_far ?_ NB314_333.out _; (with_reducible repeat (first | refine blk_drewN ?_ _ | refine blk_drew ?_ | refine blk_alloc ?_ _)); refine blk_far ?_ NB314_333.out _; (with_reducible repeat (first | refine blk_drewN ?_ _ | refine blk_drew ?_ | refine blk_alloc ?_ _)); refine blk_far ?_ NB314_333.out _; (with_reducible repeat (first | refine blk_drewN ?_ _ | refine blk_drew ?_ | refine blk_alloc ?_ _)); refine blk_far ?_ NB314_333.out _; (with_reducible repeat (first | refine blk_drewN ?_ _ | refine blk_drew ?_ | refine blk_alloc ?_ _)); exact BK314.out) hb); have n1_ := Aside0.mk (blk_below (g := gb333) (o := .cells #[.int .i64 t325, .int .i64 t326, .int .i64 t327, .int .i64 t328, .int .i64 t329, .int .i64 t330, .int .i64 t331] 23 (0, 0)) (by (with_reducible repeat (first | refine blk_drewN ?_ _ | refine blk_drew ?_ | refine blk_alloc ?_ _)); refine blk_put (cs := #[.int .i64 t325, .int .i64 t326, .int .i64 t327, .int .i64 t328, .int .i64 t329, .int .i64 t330, .int .i64 0]) ?_ 6 _ rfl; (with_reducible repeat (first | refine blk_drewN ?_ _ | refine blk_drew ?_ | refine blk_alloc ?_ _)); refine blk_put (cs := #[.int .i64 t325, .int .i64 t326, .int .i64 t327, .int .i64 t328, .int .i64 t329, .int .i64 0, .int .i64 0]) ?_ 5 _ rfl; (with_reducible repeat (first | refine blk_drewN ?_ _ | refine blk_drew ?_ | refine blk_alloc ?_ _)); refine blk_put (cs := #[.int .i64 t325, .int .i64 t326, .int .i64 t327, .int .i64 t328, .int .i64 0, .int .i64 0, .int .i64 0]) ?_ 4 _ rfl; (with_reducible repeat (first | refine blk_drewN ?_ _ | refine blk_drew ?_ | refine blk_alloc ?_ _)); refine blk_put (cs := #[.int .i64 t325, .int .i64 t326, .int .i64 t327, .int .i64 0, .int .i64 0, .int .i64 0, .int .i64 0]) ?_ 3 _ rfl; (with_reducible repeat (first | refine blk_drewN ?_ _ | refine blk_drew ?_ | refine blk_alloc ?_ _)); refine blk_put (cs := #[.int .i64 t325, .int .i64 t326, .int .i64 0, .int .i64 0, .int .i64 0, .int .i64 0, .int .i64 0]) ?_ 2 _ rfl; (with_reducible repeat (first | refine blk_drewN ?_ _ | refine blk_drew ?_ | refine blk_alloc ?_ _)); refine blk_put (cs := #[.int .i64 t325, .int .i64 0, .int .i64 0, .int .i64 0, .int .i64 0, .int .i64 0, .int .i64 0]) ?_ 1 _ rfl; (with_reducible repeat (first | refine blk_drewN ?_ _ | refine blk_drew ?_ | refine blk_alloc ?_ _)); refine blk_put (cs := #[.int .i64 0, .int .i64 0, .int .i64 0, .int .i64 0, .int .i64 0, .int .i64 0, .int .i64 0]) ?_ 0 _ rfl; (with_reducible repeat (first | refine blk_drewN ?_ _ | refine blk_drew ?_ | refine blk_alloc ?_ _)); exact BK333.out) hb); have n2_ := Aside0.mk (below_step (by repeat (first | (with_reducible first | exact HB.out | apply below_alloc | apply pw_below_drewN | apply below_drew1 | refine below_set ?_ GE314.out | refine below_set ?_ GE333.out) | exact HB.out)) hb); clear BK314; clear BK333; clear HB; have BK314 := n0_; have BK333 := n1_; have HB := n2_; clear n0_ n1_ n2_; (try clear hb); (try clear hb2); (try clear hk); (try clear hi); have hcz23_0 : w22.cell? ⟨gb314, 0, none⟩ = some (.int .i64 0) := (blk_cell BK314.out 0).trans rfl; have hcz23_1 : w22.cell? ⟨gb314, 1, none⟩ = some (.int .i64 0) := (blk_cell BK314.out 1).trans rfl; have hcz23_2 : w22.cell? ⟨gb314, 2, none⟩ = some (.int .i64 0) := (blk_cell BK314.out 2).trans rfl; have hcz23_3 : w22.cell? ⟨gb314, 3, none⟩ = some (.int .i64 0) := (blk_cell BK314.out 3).trans rfl; have hcz23_4 : w22.cell? ⟨gb314, 4, none⟩ = some (.int .i64 0) := (blk_cell BK314.out 4).trans rfl; have hcz23_5 : w22.cell? ⟨gb314, 5, none⟩ = some (.int .i64 0) := (blk_cell BK314.out 5).trans rfl; have hcz23_6 : w22.cell? ⟨gb314, 6, none⟩ = some (.int .i64 0) := (blk_cell BK314.out 6).trans rfl; have hfz23_0 := blk_frozen BK314.out 0; have hfz23_1 := blk_frozen BK314.out 1; have hfz23_2 := blk_frozen BK314.out 2; have hfz23_3 := blk_frozen BK314.out 3; have hfz23_4 := blk_frozen BK314.out 4; have hfz23_5 := blk_frozen BK314.out 5; have hfz23_6 := blk_frozen BK314.out 6))
       refine bodyPost_ret (results_ct rfl _ _ gb314 23 #[.int .i64 t334, .int .i64 t335, .int .i64 t336, .int .i64 t337, .int .i64 t338, .int .i64 t339, .int .i64 t340] (0, 0) _ rfl (by (with_reducible repeat (first | refine blk_drewN ?_ _ | refine blk_drew ?_ | refine blk_alloc ?_ _)); refine blk_put (cs := #[.int .i64 t334, .int .i64 t335, .int .i64 t336, .int .i64 t337, .int .i64 t338, .int .i64 t339, .int .i64 0]) ?_ 6 _ rfl; (with_reducible repeat (first | refine blk_drewN ?_ _ | refine blk_drew ?_ | refine blk_alloc ?_ _)); refine blk_put (cs := #[.int .i64 t334, .int .i64 t335, .int .i64 t336, .int .i64 t337, .int .i64 t338, .int .i64 0, .int .i64 0]) ?_ 5 _ rfl; (with_reducible repeat (first | refine blk_drewN ?_ _ | refine blk_drew ?_ | refine blk_alloc ?_ _)); refine blk_put (cs := #[.int .i64 t334, .int .i64 t335, .int .i64 t336, .int .i64 t337, .int .i64 0, .int .i64 0, .int .i64 0]) ?_ 4 _ rfl; (with_reducible repeat (first | refine blk_drewN ?_ _ | refine blk_drew ?_ | refine blk_alloc ?_ _)); refine blk_put (cs := #[.int .i64 t334, .int .i64 t335, .int .i64 t336, .int .i64 0, .int .i64 0, .int .i64 0, .int .i64 0]) ?_ 3 _ rfl; (with_reducible repeat (first | refine blk_drewN ?_ _ | refine blk_drew ?_ | refine blk_alloc ?_ _)); refine blk_put (cs := #[.int .i64 t334, .int .i64 t335, .int .i64 0, .int .i64 0, .int .i64 0, .int .i64 0, .int .i64 0]) ?_ 2 _ rfl; (with_reducible repeat (first | refine blk_drewN ?_ _ | refine blk_drew ?_ | refine blk_alloc ?_ _)); refine blk_put (cs := #[.int .i64 t334, .int .i64 0, .int .i64 0, .int .i64 0, .int .i64 0, .int .i64 0, .int .i64 0]) ?_ 1 _ rfl; (with_reducible repeat (first | refine blk_drewN ?_ _ | refine blk_drew ?_ | refine blk_alloc ?_ _)); refine blk_put (cs := #[.int .i64 0, .int .i64 0, .int .i64 0, .int .i64 0, .int .i64 0, .int .i64 0, .int .i64 0]) ?_ 0 _ rfl; (with_reducible repeat (first | refine blk_drewN ?_ _ | refine blk_drew ?_ | refine blk_alloc ?_ _)); exact BK314.out) Tryd.underlying23 rfl (by kernel_rfl)) rfl ?_
       exact ⟨by first | rfl | (simp [errW_none, errW_some] <;> rfl) | (simp only [← hji9]; first | rfl | (simp [errW_none, errW_some] <;> rfl)) | (simp [*, errW_none, errW_some] <;> rfl), by repeat (first | (with_reducible first | exact HB.out | apply below_alloc | apply pw_below_drewN | apply below_drew1 | refine below_set ?_ GE314.out | refine below_set ?_ GE333.out) | exact HB.out)⟩
      ·replace c16 := Bool.eq_false_iff.mpr c16
       subst c16
       have H1 : ((moment_read.f t325 t326 t327 t328 t329 t330 t331 false).bind fun bt342 => (some (bt342.1, bt342.2.1, bt342.2.2.1, bt342.2.2.2.1, bt342.2.2.2.2.1, bt342.2.2.2.2.2.1, bt342.2.2.2.2.2.2.1, bt342.2.2.2.2.2.2.2))) = some (r1, r2, r3, r4, r5, r6, r7, r8) := by rw [if_neg (show ¬ (false = true) by decide)] at H; exact H
       clear H
       have H := H1
       clear H1
       replace H := Option.bind_eq_some_iff.mp H
       obtain ⟨⟨t342, t343, t344, t345, t346, t347, t348, t349⟩, A240, H⟩ := H
       replace H : (some (t342, t343, t344, t345, t346, t347, t348, t349)) = some (r1, r2, r3, r4, r5, r6, r7, r8) := H
       have A24 := Aside0.mk A240
       clear A240
       simp only [Option.some.injEq, Prod.mk.injEq] at H
       obtain ⟨rfl, rfl, rfl, rfl, rfl, rfl, rfl, rfl⟩ := H
       go_wp2_with (first | ((with_reducible refine gate_callee (f := 68) rfl ?_); refine goesL_ (some 26) rfl rfl Tryd.func68 (by kernel_rfl) rfl #[.string (a0.extract 0 ((ji9) : Int).toNat)] rfl (by (try simp only [List.map_toArray, List.map_cons, List.map_nil]); first | done | (simp only [hji9]; rfl) | rfl | (simp only [List.length_drop, List.length_take]; rfl)) ?_; (with_reducible refine (moment_digits.calls kj1 (a0.extract 0 ((ji9) : Int).toNat) t323 false _ A12.out).mono ?_); rintro e w' ⟨rfl, ⟨nd, rfl⟩⟩; refine ⟨_, rfl, ?_⟩; (try (rw [drewN_self wc]; generalize hq_ : World.drewN wc _ = wc; have n0_ : Aside0 (wc.heap[gb314]? = some (.cells #[.int .i64 0, .int .i64 0, .int .i64 0, .int .i64 0, .int .i64 0, .int .i64 0, .int .i64 0] 23 (0, 0))) := ⟨by rw [← hq_]; exact (by (with_reducible repeat (first | refine blk_drewN ?_ _ | refine blk_drew ?_ | refine blk_alloc ?_ _)); exact BK314.out)⟩; have n1_ : Aside0 (Below w.heap.size w wc) := ⟨by rw [← hq_]; exact (by repeat (first | (with_reducible first | exact HB.out | apply below_alloc | apply pw_below_drewN | apply below_drew1 | refine below_set ?_ GE314.out) | exact HB.out))⟩; clear BK314 HB hq_; have BK314 := n0_; have HB := n1_; clear n0_ n1_))) | ((with_reducible refine gate_callee (f := 69) rfl ?_); refine goesL_ (some 34) rfl rfl Tryd.func69 (by kernel_rfl) rfl #[.int .i64 t323, .string (a0.extract ((ji9) : Int).toNat a0.size)] rfl (by (try simp only [List.map_toArray, List.map_cons, List.map_nil]); first | done | (simp only [hji9]; rfl) | rfl | (simp only [List.length_drop, List.length_take]; rfl)) ?_; (with_reducible refine (moment_day.calls t323 (a0.extract ((ji9) : Int).toNat a0.size) t325 t326 t327 t328 t329 t330 t331 t332 _ A15.out).mono ?_); rintro e w25 ⟨rfl, hb⟩; refine ⟨_, rfl, ?_⟩; have n0_ := Aside0.mk (blk_below (g := gb314) (o := .cells #[.int .i64 0, .int .i64 0, .int .i64 0, .int .i64 0, .int .i64 0, .int .i64 0, .int .i64 0] 23 (0, 0)) (by (with_reducible repeat (first | refine blk_drewN ?_ _ | refine blk_drew ?_ | refine blk_alloc ?_ _)); exact BK314.out) hb); have n1_ := Aside0.mk (below_step (by repeat (first | (with_reducible first | exact HB.out | apply below_alloc | apply pw_below_drewN | apply below_drew1 | refine below_set ?_ GE314.out) | exact HB.out)) hb); clear BK314; clear HB; have BK314 := n0_; have HB := n1_; clear n0_ n1_; (try clear hb); (try clear hb2); (try clear hk); (try clear hi)) | ((with_reducible refine gate_dst (N := 7) rfl ?_); refine box_event ?hg (N := 7) ?hd (cs := #[.int .i64 0, .int .i64 0, .int .i64 0, .int .i64 0, .int .i64 0, .int .i64 0, .int .i64 0]) (t := 23) ?hr ?_; (case hd => rfl); (case hg => rfl); (case hr => first | (go_simp; done) | (go_simp; rfl)); intro gb333 hg w26 hbox hb; have n0_ := Aside0.mk (blk_below (g := gb314) (o := .cells #[.int .i64 0, .int .i64 0, .int .i64 0, .int .i64 0, .int .i64 0, .int .i64 0, .int .i64 0] 23 (0, 0)) (by (with_reducible repeat (first | refine blk_drewN ?_ _ | refine blk_drew ?_ | refine blk_alloc ?_ _)); exact BK314.out) hb); have n1_ := Aside0.mk (below_step (by repeat (first | (with_reducible first | exact HB.out | apply below_alloc | apply pw_below_drewN | apply below_drew1 | refine below_set ?_ GE314.out) | exact HB.out)) hb); have n2_ := Aside0.mk (hbox); have n3_ := Aside0.mk ((by rw [hg]; exact (below_size (by repeat (first | (with_reducible first | exact HB.out | apply below_alloc | apply pw_below_drewN | apply below_drew1 | refine below_set ?_ GE314.out) | exact HB.out))) : w.heap.size ≤ gb333)); have n4_ := Aside0.mk ((by rw [hg]; exact (below_size (by repeat (first | (with_reducible first | exact HB.out | apply below_alloc | apply pw_below_drewN | apply below_drew1 | refine below_set ?_ GE314.out) | exact HB.out))) : w.heap.size ≤ gb333)); have n5_ := Aside0.mk ((by rw [hg]; exact Nat.ne_of_lt (blk_lt (g := gb314) (o := .cells #[.int .i64 0, .int .i64 0, .int .i64 0, .int .i64 0, .int .i64 0, .int .i64 0, .int .i64 0] 23 (0, 0)) (by (with_reducible repeat (first | refine blk_drewN ?_ _ | refine blk_drew ?_ | refine blk_alloc ?_ _)); exact BK314.out)) : gb314 ≠ gb333)); have n6_ := Aside0.mk ((by rw [hg]; exact Nat.ne_of_gt (blk_lt (g := gb314) (o := .cells #[.int .i64 0, .int .i64 0, .int .i64 0, .int .i64 0, .int .i64 0, .int .i64 0, .int .i64 0] 23 (0, 0)) (by (with_reducible repeat (first | refine blk_drewN ?_ _ | refine blk_drew ?_ | refine blk_alloc ?_ _)); exact BK314.out)) : gb333 ≠ gb314)); clear BK314; clear HB; have BK314 := n0_; have HB := n1_; have BK333 := n2_; have GW333 := n3_; have GE333 := n4_; have NB314_333 := n5_; have NB333_314 := n6_; clear n0_ n1_ n2_ n3_ n4_ n5_ n6_; clear hb hbox hg; have hnb27 := NB333_314.out; have hnc27 := NB314_333.out; have hcz28_0 : w26.cell? ⟨gb333, 0, none⟩ = some (.int .i64 0) := (blk_cell BK333.out 0).trans rfl; have hcz28_1 : w26.cell? ⟨gb333, 1, none⟩ = some (.int .i64 0) := (blk_cell BK333.out 1).trans rfl; have hcz28_2 : w26.cell? ⟨gb333, 2, none⟩ = some (.int .i64 0) := (blk_cell BK333.out 2).trans rfl; have hcz28_3 : w26.cell? ⟨gb333, 3, none⟩ = some (.int .i64 0) := (blk_cell BK333.out 3).trans rfl; have hcz28_4 : w26.cell? ⟨gb333, 4, none⟩ = some (.int .i64 0) := (blk_cell BK333.out 4).trans rfl; have hcz28_5 : w26.cell? ⟨gb333, 5, none⟩ = some (.int .i64 0) := (blk_cell BK333.out 5).trans rfl; have hcz28_6 : w26.cell? ⟨gb333, 6, none⟩ = some (.int .i64 0) := (blk_cell BK333.out 6).trans rfl; have hfz28_0 := blk_frozen BK333.out 0; have hfz28_1 := blk_frozen BK333.out 1; have hfz28_2 := blk_frozen BK333.out 2; have hfz28_3 := blk_frozen BK333.out 3; have hfz28_4 := blk_frozen BK333.out 4; have hfz28_5 := blk_frozen BK333.out 5; have hfz28_6 := blk_frozen BK333.out 6) | ((with_reducible refine gate_callee (f := 60) rfl ?_); refine goesL_ (some 42) rfl rfl Tryd.func60 (by kernel_rfl) rfl #[.agg #[.int .i64 t325, .int .i64 t326, .int .i64 t327, .int .i64 t328, .int .i64 t329, .int .i64 t330, .int .i64 t331], .bool false] rfl (by (try simp only [List.map_toArray, List.map_cons, List.map_nil]); first | done | rfl | (simp only [List.length_drop, List.length_take]; rfl)) ?_; (with_reducible refine (moment_read.calls t325 t326 t327 t328 t329 t330 t331 false t342 t343 t344 t345 t346 t347 t348 t349 _ A24.out (by first | exact laid_below HL_.out (by repeat (first | (with_reducible first | exact HB.out | apply below_alloc | apply pw_below_drewN | apply below_drew1 | refine below_set ?_ GW333.out) | exact HB.out)) | exact laid_drawn HL_.out (by repeat (first | exact Drawn0.refl _ | apply Drawn0.step)))).mono ?_); rintro e w29 ⟨rfl, hb⟩; refine ⟨_, rfl, ?_⟩; have n0_ := Aside0.mk (blk_below (g := gb314) (o := .cells #[.int .i64 0, .int .i64 0, .int .i64 0, .int .i64 0, .int .i64 0, .int .i64 0, .int .i64 0] 23 (0, 0)) (by (with_reducible repeat (first | refine blk_drewN ?_ _ | refine blk_drew ?_ | refine blk_alloc ?_ _)); refine blk_far ?_ NB314_333.out _; (with_reducible repeat (first | refine blk_drewN ?_ _ | refine blk_drew ?_ | refine blk_alloc ?_ _)); refine blk_far ?_ NB314_333.out _; (with_reducible repeat (first | refine blk_drewN ?_ _ | refine blk_drew ?_ | refine blk_alloc ?_ _)); refine blk_far ?_ NB314_333.out _; (with_reducible repeat (first | refine blk_drewN ?_ _ | refine blk_drew ?_ | refine blk_alloc ?_ _)); refine blk_far ?_ NB314_333.out _; (with_reducible repeat (first | refine blk_drewN ?_ _ | refine blk_drew ?_ | refine blk_alloc ?_ _)); refine blk_far ?_ NB314_333.out _; (with_reducible repeat (first | refine blk_drewN ?_ _ | refine blk_drew ?_ | refine blk_alloc ?_ _)); refine blk_far ?_ NB314_333.out _; (with_reducible repeat (first | refine blk_drewN ?_ _ | refine blk_drew ?_ | refine blk_alloc ?_ _)); refine blk_far ?_ NB314_333.out _; (with_reducible repeat (first | refine blk_drewN ?_ _ | refine blk_drew ?_ | refine blk_alloc ?_ _)); exact BK314.out) hb); have n1_ := Aside0.mk (blk_below (g := gb333) (o := .cells #[.int .i64 t325, .int .i64 t326, .int .i64 t327, .int .i64 t328, .int .i64 t329, .int .i64 t330, .int .i64 t331] 23 (0, 0)) (by (with_reducible repeat (first | refine blk_drewN ?_ _ | refine blk_drew ?_ | refine blk_alloc ?_ _)); refine blk_put (cs := #[.int .i64 t325, .int .i64 t326, .int .i64 t327, .int .i64 t328, .int .i64 t329, .int .i64 t330, .int .i64 0]) ?_ 6 _ rfl; (with_reducible repeat (first | refine blk_drewN ?_ _ | refine blk_drew ?_ | refine blk_alloc ?_ _)); refine blk_put (cs := #[.int .i64 t325, .int .i64 t326, .int .i64 t327, .int .i64 t328, .int .i64 t329, .int .i64 0, .int .i64 0]) ?_ 5 _ rfl; (with_reducible repeat (first | refine blk_drewN ?_ _ | refine blk_drew ?_ | refine blk_alloc ?_ _)); refine blk_put (cs := #[.int .i64 t325, .int .i64 t326, .int .i64 t327, .int .i64 t328, .int .i64 0, .int .i64 0, .int .i64 0]) ?_ 4 _ rfl; (with_reducible repeat (first | refine blk_drewN ?_ _ | refine blk_drew ?_ | refine blk_alloc ?_ _)); refine blk_put (cs := #[.int .i64 t325, .int .i64 t326, .int .i64 t327, .int .i64 0, .int .i64 0, .int .i64 0, .int .i64 0]) ?_ 3 _ rfl; (with_reducible repeat (first | refine blk_drewN ?_ _ | refine blk_drew ?_ | refine blk_alloc ?_ _)); refine blk_put (cs := #[.int .i64 t325, .int .i64 t326, .int .i64 0, .int .i64 0, .int .i64 0, .int .i64 0, .int .i64 0]) ?_ 2 _ rfl; (with_reducible repeat (first | refine blk_drewN ?_ _ | refine blk_drew ?_ | refine blk_alloc ?_ _)); refine blk_put (cs := #[.int .i64 t325, .int .i64 0, .int .i64 0, .int .i64 0, .int .i64 0, .int .i64 0, .int .i64 0]) ?_ 1 _ rfl; (with_reducible repeat (first | refine blk_drewN ?_ _ | refine blk_drew ?_ | refine blk_alloc ?_ _)); refine blk_put (cs := #[.int .i64 0, .int .i64 0, .int .i64 0, .int .i64 0, .int .i64 0, .int .i64 0, .int .i64 0]) ?_ 0 _ rfl; (with_reducible repeat (first | refine blk_drewN ?_ _ | refine blk_drew ?_ | refine blk_alloc ?_ _)); exact BK333.out) hb); have n2_ := Aside0.mk (below_step (by repeat (first | (with_reducible first | exact HB.out | apply below_alloc | apply pw_below_drewN | apply below_drew1 | refine below_set ?_ GE314.out | refine below_set ?_ GE333.out) | exact HB.out)) hb); clear BK314; clear BK333; clear HB; have BK314 := n0_; have BK333 := n1_; have HB := n2_; clear n0_ n1_ n2_; (try clear hb); (try clear hb2); (try clear hk); (try clear hi); have hcz30_0 : w29.cell? ⟨gb314, 0, none⟩ = some (.int .i64 0) := (blk_cell BK314.out 0).trans rfl; have hcz30_1 : w29.cell? ⟨gb314, 1, none⟩ = some (.int .i64 0) := (blk_cell BK314.out 1).trans rfl; have hcz30_2 : w29.cell? ⟨gb314, 2, none⟩ = some (.int .i64 0) := (blk_cell BK314.out 2).trans rfl; have hcz30_3 : w29.cell? ⟨gb314, 3, none⟩ = some (.int .i64 0) := (blk_cell BK314.out 3).trans rfl; have hcz30_4 : w29.cell? ⟨gb314, 4, none⟩ = some (.int .i64 0) := (blk_cell BK314.out 4).trans rfl; have hcz30_5 : w29.cell? ⟨gb314, 5, none⟩ = some (.int .i64 0) := (blk_cell BK314.out 5).trans rfl; have hcz30_6 : w29.cell? ⟨gb314, 6, none⟩ = some (.int .i64 0) := (blk_cell BK314.out 6).trans rfl; have hfz30_0 := blk_frozen BK314.out 0; have hfz30_1 := blk_frozen BK314.out 1; have hfz30_2 := blk_frozen BK314.out 2; have hfz30_3 := blk_frozen BK314.out 3; have hfz30_4 := blk_frozen BK314.out 4; have hfz30_5 := blk_frozen BK314.out 5; have hfz30_6 := blk_frozen BK314.out 6))
       refine bodyPost_ret (results_ct rfl _ _ gb314 23 #[.int .i64 t342, .int .i64 t343, .int .i64 t344, .int .i64 t345, .int .i64 t346, .int .i64 t347, .int .i64 t348] (0, 0) _ rfl (by (with_reducible repeat (first | refine blk_drewN ?_ _ | refine blk_drew ?_ | refine blk_alloc ?_ _)); refine blk_put (cs := #[.int .i64 t342, .int .i64 t343, .int .i64 t344, .int .i64 t345, .int .i64 t346, .int .i64 t347, .int .i64 0]) ?_ 6 _ rfl; (with_reducible repeat (first | refine blk_drewN ?_ _ | refine blk_drew ?_ | refine blk_alloc ?_ _)); refine blk_put (cs := #[.int .i64 t342, .int .i64 t343, .int .i64 t344, .int .i64 t345, .int .i64 t346, .int .i64 0, .int .i64 0]) ?_ 5 _ rfl; (with_reducible repeat (first | refine blk_drewN ?_ _ | refine blk_drew ?_ | refine blk_alloc ?_ _)); refine blk_put (cs := #[.int .i64 t342, .int .i64 t343, .int .i64 t344, .int .i64 t345, .int .i64 0, .int .i64 0, .int .i64 0]) ?_ 4 _ rfl; (with_reducible repeat (first | refine blk_drewN ?_ _ | refine blk_drew ?_ | refine blk_alloc ?_ _)); refine blk_put (cs := #[.int .i64 t342, .int .i64 t343, .int .i64 t344, .int .i64 0, .int .i64 0, .int .i64 0, .int .i64 0]) ?_ 3 _ rfl; (with_reducible repeat (first | refine blk_drewN ?_ _ | refine blk_drew ?_ | refine blk_alloc ?_ _)); refine blk_put (cs := #[.int .i64 t342, .int .i64 t343, .int .i64 0, .int .i64 0, .int .i64 0, .int .i64 0, .int .i64 0]) ?_ 2 _ rfl; (with_reducible repeat (first | refine blk_drewN ?_ _ | refine blk_drew ?_ | refine blk_alloc ?_ _)); refine blk_put (cs := #[.int .i64 t342, .int .i64 0, .int .i64 0, .int .i64 0, .int .i64 0, .int .i64 0, .int .i64 0]) ?_ 1 _ rfl; (with_reducible repeat (first | refine blk_drewN ?_ _ | refine blk_drew ?_ | refine blk_alloc ?_ _)); refine blk_put (cs := #[.int .i64 0, .int .i64 0, .int .i64 0, .int .i64 0, .int .i64 0, .int .i64 0, .int .i64 0]) ?_ 0 _ rfl; (with_reducible repeat (first | refine blk_drewN ?_ _ | refine blk_drew ?_ | refine blk_alloc ?_ _)); exact BK314.out) Tryd.underlying23 rfl (by kernel_rfl)) rfl ?_
       exact ⟨by first | rfl | (simp [errW_none, errW_some] <;> rfl) | (simp only [← hji9]; first | rfl | (simp [errW_none, errW_some] <;> rfl)) | (simp [*, errW_none, errW_some] <;> rfl), by repeat (first | (with_reducible first | exact HB.out | apply below_alloc | apply pw_below_drewN | apply below_drew1 | refine below_set ?_ GE314.out | refine below_set ?_ GE333.out) | exact HB.out)⟩
     ·rw [if_neg c11] at H
      exact absurd H (by simp)
    ·rw [if_neg c10] at H
     exact absurd H (by simp)
end Go.Proofs.YtjlchnmpebdggaaDoor.Mo
end
section
namespace Go.Proofs.YtjlchnmpebdggaaDoor.Mo
open Go.RowKit Go.Proofs.YtjlchnmpebdggaaDoorW.PrintWords
def toldP (y m d h mi s z : Int) (ok : Bool) : Int × Int × Int × Int × Int × Int × Int × Int :=
  if ok = true then (if isDayB y m d = true then (y, m, d, h, mi, s, z, 0) else (0, 0, 0, 0, 0, 0, 0, 21)) else (0, 0, 0, 0, 0, 0, 0, 20)
theorem read_f (y m d h mi s z : Int) (ok : Bool) : moment_read.f y m d h mi s z ok = some (toldP y m d h mi s z ok) := by
  unfold moment_read.f toldP
  rw [isDay_f, Option.bind_some]
  cases ok <;> cases isDayB y m d <;> rfl
def readDayP (s : ByteArray) : Int × Int × Int × Int × Int × Int × Int × Int :=
  if s.size = 10 ∨ s.size = 11 then
    toldP (dayP (digitsP (s.extract 0 (s.size - 9))).1 (s.extract (s.size - 9) s.size)).1 (dayP (digitsP (s.extract 0 (s.size - 9))).1 (s.extract (s.size - 9) s.size)).2.1
      (dayP (digitsP (s.extract 0 (s.size - 9))).1 (s.extract (s.size - 9) s.size)).2.2.1 0 0 0 0 ((digitsP (s.extract 0 (s.size - 9))).2 && (dayP (digitsP (s.extract 0 (s.size - 9))).1 (s.extract (s.size - 9) s.size)).2.2.2)
  else (0, 0, 0, 0, 0, 0, 0, 20)
theorem readDay_f (k : Nat) (hk : 60 ≤ k) (s : ByteArray) (hs : s.size ≤ 140737488351232) : moment_ReadDay.f k s = some (readDayP s) := by
  obtain ⟨k, rfl⟩ : ∃ q, k = q + 1 := ⟨k - 1, by omega⟩
  have hw : wrap64 ((s.size : Int) - 9) = (s.size : Int) - 9 := w64 _ (by omega) (by omega)
  unfold moment_ReadDay.f readDayP
  rw [hw]
  have hgo : (s.size = 10 ∨ s.size = 11) → moment_ReadDay.j0 (k + 1) s ((s.size : Int) - 9) false = some (toldP (dayP (digitsP (s.extract 0 (s.size - 9))).1 (s.extract (s.size - 9) s.size)).1 (dayP (digitsP (s.extract 0 (s.size - 9))).1 (s.extract (s.size - 9) s.size)).2.1
      (dayP (digitsP (s.extract 0 (s.size - 9))).1 (s.extract (s.size - 9) s.size)).2.2.1 0 0 0 0 ((digitsP (s.extract 0 (s.size - 9))).2 && (dayP (digitsP (s.extract 0 (s.size - 9))).1 (s.extract (s.size - 9) s.size)).2.2.2)) := by
    intro h
    simp only [moment_ReadDay.j0]
    rw [if_neg (by decide), if_pos (by omega), if_pos (by omega), show ((s.size : Int) - 9).toNat = s.size - 9 from by omega, digits_f k (by omega), Option.bind_some]
    generalize digitsP (s.extract 0 (s.size - 9)) = D
    unfold moment_day.f
    rw [Option.bind_some]
    generalize dayP D.1 (s.extract (s.size - 9) s.size) = E
    cases hd : D.2
    · rw [if_neg (by decide), read_f, Option.bind_some, Bool.false_and]
    · rw [if_pos rfl, read_f, Option.bind_some, Bool.true_and]
  by_cases h1 : s.size = 10
  · rw [if_pos (by omega), if_pos (.inl h1)]
    exact hgo (.inl h1)
  · rw [if_neg (by omega)]
    by_cases h2 : s.size = 11
    · rw [if_pos (.inr h2), show (((s.size : Int) - 9) != 2) = false from by rw [bne_eq_false_iff_eq]; omega]
      exact hgo (.inr h2)
    · rw [if_neg (by omega), show (((s.size : Int) - 9) != 2) = true from by rw [bne_iff_ne]; omega]
      simp only [moment_ReadDay.j0]
      rw [if_pos trivial, read_f]
      rfl
end Go.Proofs.YtjlchnmpebdggaaDoor.Mo
end
section
namespace Go.Proofs.YtjlchnmpebdggaaDoor.Mo
open Go.RowKit Go.Proofs.YtjlchnmpebdggaaDoorW.PrintWords
theorem digitsP_range (s : ByteArray) : 0 ≤ (digitsP s).1 ∧ (digitsP s).1 < 10000 := by
  unfold digitsP
  split
  · rename_i h
    have := dval_bound _ h.2.2
    have h4 : (10 : Int) ^ s.data.toList.length ≤ 10 ^ 4 := by
      rw [toList_len]
      have h4 : s.size = 1 ∨ s.size = 2 ∨ s.size = 3 ∨ s.size = 4 := by omega
      rcases h4 with h | h | h | h <;> rw [h] <;> decide
    exact ⟨this.1, by have := this.2; omega⟩
  · exact ⟨by decide, by decide⟩
def belowP (s : ByteArray) (most : Int) : Int × Bool := ((digitsP s).1, (digitsP s).2 && (decide (s.size = 2) && decide ((digitsP s).1 ≤ most)))
theorem below_f (k : Nat) (hk : 7 ≤ k) (s : ByteArray) (most : Int) : moment_below.f k s most = some (belowP s most) := by
  unfold moment_below.f belowP
  rw [digits_f k hk]
  simp only [Option.bind_some]
  cases h : (digitsP s).2 with
  | false => rw [if_neg (by simp)]; rfl
  | true =>
    rw [if_pos rfl]
    by_cases h2 : s.size = 2
    · rw [if_pos (by omega)]
      simp [h2]
    · rw [if_neg (by omega)]
      simp [h2]
def zoneT (s : ByteArray) : Int × Bool :=
  if s.size = 5 ∧ (bt s 0 = 43 ∨ bt s 0 = 45) then
    ((if bt s 0 = 45 then -(60 * (belowP (s.extract 1 3) 23).1 + (belowP (s.extract 3 5) 59).1) else 60 * (belowP (s.extract 1 3) 23).1 + (belowP (s.extract 3 5) 59).1),
      (belowP (s.extract 1 3) 23).2 && (belowP (s.extract 3 5) 59).2)
  else (0, false)
theorem belowP_range (s : ByteArray) (m : Int) : 0 ≤ (belowP s m).1 ∧ (belowP s m).1 < 10000 := by
  unfold belowP; exact digitsP_range s
theorem wrap_small (n : Int) (h0 : -1000000 ≤ n) (h1 : n ≤ 1000000) : wrap64 n = n := IntWalk.wrap64_in _ ⟨by omega, by omega⟩
theorem zone_f (k : Nat) (hk : 10 ≤ k) (s : ByteArray) : moment_zone.f k s = some (zoneT s) := by
  obtain ⟨k, rfl⟩ : ∃ m, k = m + 1 := ⟨k - 1, by omega⟩
  unfold moment_zone.f zoneT
  by_cases h5 : s.size = 5
  · have e35 : s.extract 3 s.size = s.extract 3 5 := by rw [h5]
    have r1 := belowP_range (s.extract 1 3) 23
    have r2 := belowP_range (s.extract 3 5) 59
    have f1 := below_f k (by omega) (s.extract 1 3) 23
    have f2 := below_f k (by omega) (s.extract 3 5) 59
    have hj : moment_zone.j0 (k + 1) s false = some ((if bt s 0 = 45 then -(60 * (belowP (s.extract 1 3) 23).1 + (belowP (s.extract 3 5) 59).1) else 60 * (belowP (s.extract 1 3) 23).1 + (belowP (s.extract 3 5) 59).1),
        (belowP (s.extract 1 3) 23).2 && (belowP (s.extract 3 5) 59).2) := by
      generalize belowP (s.extract 1 3) 23 = A at *
      generalize belowP (s.extract 3 5) 59 = B at *
      obtain ⟨H, hb⟩ := A
      obtain ⟨M, mb⟩ := B
      simp only at r1 r2
      rw [moment_zone.j0, if_neg (by simp), if_pos (by omega), if_pos (by omega), e35, f1, f2]
      simp only [Option.bind_some]
      rw [wrap_small (60 * H) (by omega) (by omega), wrap_small (60 * H + M) (by omega) (by omega), wrap_small (-(60 * H + M)) (by omega) (by omega), if_pos (by omega)]
      by_cases h45 : bt s 0 = 45
      · rw [if_pos h45, if_pos h45]
        cases hb <;> simp
      · rw [if_neg h45, if_neg h45]
        cases hb <;> simp
    rw [if_pos (by omega), if_pos (by omega)]
    by_cases h43 : bt s 0 = 43
    · rw [if_pos h43, hj, if_pos (show s.size = 5 ∧ (bt s 0 = 43 ∨ bt s 0 = 45) from ⟨h5, .inl h43⟩)]
    · rw [if_neg h43]
      by_cases h45 : bt s 0 = 45
      · have e : (bt s 0 != 45) = false := by rw [bne_eq_false_iff_eq]; exact h45
        rw [e, hj, if_pos (show s.size = 5 ∧ (bt s 0 = 43 ∨ bt s 0 = 45) from ⟨h5, .inr h45⟩)]
      · have e : (bt s 0 != 45) = true := by rw [bne_iff_ne]; exact h45
        rw [e, moment_zone.j0, if_pos rfl, if_neg (fun h => h.2.elim h43 h45)]
  · rw [if_neg (by omega), moment_zone.j0, if_pos rfl, if_neg (fun h => h5 h.1)]
end Go.Proofs.YtjlchnmpebdggaaDoor.Mo
end
section
namespace Go.Proofs.YtjlchnmpebdggaaDoor.Mo
open Go.RowKit Go.Proofs.YtjlchnmpebdggaaDoorW.PrintWords
set_option linter.unusedVariables false
def formI (s : ByteArray) : Prop := s.size = 26 ∧ bt s 11 = 32 ∧ bt s 14 = 58 ∧ bt s 17 = 58 ∧ bt s 20 = 32
instance (s : ByteArray) : Decidable (formI s) := by unfold formI; exact inferInstance
def dayT (s : ByteArray) : ByteArray := if bt (s.extract 0 2) 0 = 32 then (s.extract 0 2).extract 1 2 else s.extract 0 2
theorem pair_eta {α β : Type} (p : α × β) : p = (p.1, p.2) := rfl
theorem quad_eta {α β γ δ : Type} (p : α × β × γ × δ) : p = (p.1, p.2.1, p.2.2.1, p.2.2.2) := rfl
def riD (s : ByteArray) : Int × Bool := digitsP (dayT s)
def riY (s : ByteArray) : Int × Int × Int × Bool := dayP (riD s).1 (s.extract 2 11)
def riH (s : ByteArray) : Int × Bool := belowP (s.extract 12 14) 23
def riM (s : ByteArray) : Int × Bool := belowP (s.extract 15 17) 59
def riS (s : ByteArray) : Int × Bool := belowP (s.extract 18 20) 59
def riZ (s : ByteArray) : Int × Bool := zoneT (s.extract 21 26)
def riOk (s : ByteArray) : Bool := (riD s).2 && ((riY s).2.2.2 && ((riH s).2 && ((riM s).2 && ((riS s).2 && (riZ s).2))))
def moment_ReadInternal.f (s : ByteArray) : Option (Int × Int × Int × Int × Int × Int × Int × Int) :=
  if formI s then moment_read.f (riY s).1 (riY s).2.1 (riY s).2.2.1 (riH s).1 (riM s).1 (riS s).1 (riZ s).1 (riOk s) else some (0, 0, 0, 0, 0, 0, 0, 20)
theorem at_bt (s : ByteArray) (i : Nat) (h : i < s.size) : ((s[i]'h).toNat : Int) = bt s (i : Int) := bt_at s (i : Int) (by simpa using h)
set_option maxHeartbeats 4000000 in
set_option maxRecDepth 100000 in
theorem ri_no (s : ByteArray) (w : World) (hf : ¬ formI s) (hL : Laid w) :
    Calls Tryd.prog 32 #[.string s] w fun e w' => e = .returned (.tuple #[.agg #[.int .i64 0, .int .i64 0, .int .i64 0, .int .i64 0, .int .i64 0, .int .i64 0, .int .i64 0], .int .i64 20]) ∧ Below w.heap.size w w' := by
  have HL := Lib.hid (laid_below hL (below_alloc (Below.refl _ w) (.cells #[.int .i64 0, .int .i64 0, .int .i64 0, .int .i64 0, .int .i64 0, .int .i64 0, .int .i64 0] 23)))
  have HR : Hid (moment_read.f 0 0 0 0 0 0 0 false = some (0, 0, 0, 0, 0, 0, 0, 20)) := Lib.hid rfl
  clear hL
  by_cases h26 : s.size = 26
  · have g26 : ((s.size : Int) != 26) = false := by rw [bne_eq_false_iff_eq]; omega
    have hb11 : 11 < s.size := by omega
    by_cases q11 : bt s 11 = 32
    · have e11 : ((s[11]'hb11).toNat : Int) = 32 := by rw [at_bt]; exact q11
      have hb14 : 14 < s.size := by omega
      by_cases q14 : bt s 14 = 58
      · have e14 : ((s[14]'hb14).toNat : Int) = 58 := by rw [at_bt]; exact q14
        have hb17 : 17 < s.size := by omega
        by_cases q17 : bt s 17 = 58
        · have e17 : ((s[17]'hb17).toNat : Int) = 58 := by rw [at_bt]; exact q17
          have hb20 : 20 < s.size := by omega
          by_cases q20 : bt s 20 = 32
          · have e20 : ((s[20]'hb20).toNat : Int) = 32 := by rw [at_bt]; exact q20
            exact absurd ⟨h26, q11, q14, q17, q20⟩ hf
          · have e20 : (((s[20]'hb20).toNat : Int) != 32) = true := by rw [bne_iff_ne, at_bt]; exact q20
            clear q11
            clear q14
            clear q17
            clear q20
            clear hf
            go_enter Tryd.func32, Tryd.ntmps32
            go_wp2_with fail
            refine (moment_read.calls 0 0 0 0 0 0 0 false 0 0 0 0 0 0 0 20 _ HR.out HL.out).mono ?_
            rintro e w1 ⟨rfl, hb1⟩
            have hbx := (hb1.block w.heap.size (by simp)).trans (heap_alloc_new w _)
            have HB := Lib.hid (below_step (below_alloc (Below.refl _ w) _) hb1)
            obtain ⟨⟨c0, c1, c2, c3, c4, c5, c6⟩, fz⟩ := cells7 hbx
            have z0 := fz 0
            have z1 := fz 1
            have z2 := fz 2
            have z3 := fz 3
            have z4 := fz 4
            have z5 := fz 5
            have z6 := fz 6
            have HBX := Lib.hid hbx
            clear hb1 hbx fz
            go_wp2
            exact bodyPost_ret (results_ct rfl _ _ w.heap.size 23 #[.int .i64 0, .int .i64 0, .int .i64 0, .int .i64 0, .int .i64 0, .int .i64 0, .int .i64 0] (0, 0) _ rfl (set7 HBX.out _ _ _ _ _ _ _).1 Tryd.underlying23 rfl (by kernel_rfl)) rfl ⟨rfl, (set7 HBX.out _ _ _ _ _ _ _).2 _ _ HB.out (Nat.le_refl _)⟩
        · have e17 : (((s[17]'hb17).toNat : Int) != 58) = true := by rw [bne_iff_ne, at_bt]; exact q17
          clear q11
          clear q14
          clear q17
          clear hf
          go_enter Tryd.func32, Tryd.ntmps32
          go_wp2_with fail
          refine (moment_read.calls 0 0 0 0 0 0 0 false 0 0 0 0 0 0 0 20 _ HR.out HL.out).mono ?_
          rintro e w1 ⟨rfl, hb1⟩
          have hbx := (hb1.block w.heap.size (by simp)).trans (heap_alloc_new w _)
          have HB := Lib.hid (below_step (below_alloc (Below.refl _ w) _) hb1)
          obtain ⟨⟨c0, c1, c2, c3, c4, c5, c6⟩, fz⟩ := cells7 hbx
          have z0 := fz 0
          have z1 := fz 1
          have z2 := fz 2
          have z3 := fz 3
          have z4 := fz 4
          have z5 := fz 5
          have z6 := fz 6
          have HBX := Lib.hid hbx
          clear hb1 hbx fz
          go_wp2
          exact bodyPost_ret (results_ct rfl _ _ w.heap.size 23 #[.int .i64 0, .int .i64 0, .int .i64 0, .int .i64 0, .int .i64 0, .int .i64 0, .int .i64 0] (0, 0) _ rfl (set7 HBX.out _ _ _ _ _ _ _).1 Tryd.underlying23 rfl (by kernel_rfl)) rfl ⟨rfl, (set7 HBX.out _ _ _ _ _ _ _).2 _ _ HB.out (Nat.le_refl _)⟩
      · have e14 : (((s[14]'hb14).toNat : Int) != 58) = true := by rw [bne_iff_ne, at_bt]; exact q14
        clear q11
        clear q14
        clear hf
        go_enter Tryd.func32, Tryd.ntmps32
        go_wp2_with fail
        refine (moment_read.calls 0 0 0 0 0 0 0 false 0 0 0 0 0 0 0 20 _ HR.out HL.out).mono ?_
        rintro e w1 ⟨rfl, hb1⟩
        have hbx := (hb1.block w.heap.size (by simp)).trans (heap_alloc_new w _)
        have HB := Lib.hid (below_step (below_alloc (Below.refl _ w) _) hb1)
        obtain ⟨⟨c0, c1, c2, c3, c4, c5, c6⟩, fz⟩ := cells7 hbx
        have z0 := fz 0
        have z1 := fz 1
        have z2 := fz 2
        have z3 := fz 3
        have z4 := fz 4
        have z5 := fz 5
        have z6 := fz 6
        have HBX := Lib.hid hbx
        clear hb1 hbx fz
        go_wp2
        exact bodyPost_ret (results_ct rfl _ _ w.heap.size 23 #[.int .i64 0, .int .i64 0, .int .i64 0, .int .i64 0, .int .i64 0, .int .i64 0, .int .i64 0] (0, 0) _ rfl (set7 HBX.out _ _ _ _ _ _ _).1 Tryd.underlying23 rfl (by kernel_rfl)) rfl ⟨rfl, (set7 HBX.out _ _ _ _ _ _ _).2 _ _ HB.out (Nat.le_refl _)⟩
    · have e11 : (((s[11]'hb11).toNat : Int) != 32) = true := by rw [bne_iff_ne, at_bt]; exact q11
      clear q11
      clear hf
      go_enter Tryd.func32, Tryd.ntmps32
      go_wp2_with fail
      refine (moment_read.calls 0 0 0 0 0 0 0 false 0 0 0 0 0 0 0 20 _ HR.out HL.out).mono ?_
      rintro e w1 ⟨rfl, hb1⟩
      have hbx := (hb1.block w.heap.size (by simp)).trans (heap_alloc_new w _)
      have HB := Lib.hid (below_step (below_alloc (Below.refl _ w) _) hb1)
      obtain ⟨⟨c0, c1, c2, c3, c4, c5, c6⟩, fz⟩ := cells7 hbx
      have z0 := fz 0
      have z1 := fz 1
      have z2 := fz 2
      have z3 := fz 3
      have z4 := fz 4
      have z5 := fz 5
      have z6 := fz 6
      have HBX := Lib.hid hbx
      clear hb1 hbx fz
      go_wp2
      exact bodyPost_ret (results_ct rfl _ _ w.heap.size 23 #[.int .i64 0, .int .i64 0, .int .i64 0, .int .i64 0, .int .i64 0, .int .i64 0, .int .i64 0] (0, 0) _ rfl (set7 HBX.out _ _ _ _ _ _ _).1 Tryd.underlying23 rfl (by kernel_rfl)) rfl ⟨rfl, (set7 HBX.out _ _ _ _ _ _ _).2 _ _ HB.out (Nat.le_refl _)⟩
  · have g26 : ((s.size : Int) != 26) = true := by rw [bne_iff_ne]; omega
    clear h26
    clear hf
    go_enter Tryd.func32, Tryd.ntmps32
    go_wp2_with fail
    refine (moment_read.calls 0 0 0 0 0 0 0 false 0 0 0 0 0 0 0 20 _ HR.out HL.out).mono ?_
    rintro e w1 ⟨rfl, hb1⟩
    have hbx := (hb1.block w.heap.size (by simp)).trans (heap_alloc_new w _)
    have HB := Lib.hid (below_step (below_alloc (Below.refl _ w) _) hb1)
    obtain ⟨⟨c0, c1, c2, c3, c4, c5, c6⟩, fz⟩ := cells7 hbx
    have z0 := fz 0
    have z1 := fz 1
    have z2 := fz 2
    have z3 := fz 3
    have z4 := fz 4
    have z5 := fz 5
    have z6 := fz 6
    have HBX := Lib.hid hbx
    clear hb1 hbx fz
    go_wp2
    exact bodyPost_ret (results_ct rfl _ _ w.heap.size 23 #[.int .i64 0, .int .i64 0, .int .i64 0, .int .i64 0, .int .i64 0, .int .i64 0, .int .i64 0] (0, 0) _ rfl (set7 HBX.out _ _ _ _ _ _ _).1 Tryd.underlying23 rfl (by kernel_rfl)) rfl ⟨rfl, (set7 HBX.out _ _ _ _ _ _ _).2 _ _ HB.out (Nat.le_refl _)⟩
set_option maxHeartbeats 8000000 in
set_option maxRecDepth 100000 in
theorem ri_yes (s D : ByteArray) (n y mo dd hh mi se zz : Int) (a b c e f g : Bool) (r1 r2 r3 r4 r5 r6 r7 r8 : Int) (w : World) (hf : formI s) (hD : dayT s = D)
    (h1 : digitsP D = (n, a)) (h2 : dayP n (s.extract 2 11) = (y, mo, dd, b)) (h3 : belowP (s.extract 12 14) 23 = (hh, c)) (h4 : belowP (s.extract 15 17) 59 = (mi, e)) (h5 : belowP (s.extract 18 20) 59 = (se, f)) (h6 : zoneT (s.extract 21 26) = (zz, g))
    (h : moment_read.f y mo dd hh mi se zz (a && (b && (c && (e && (f && g))))) = some (r1, r2, r3, r4, r5, r6, r7, r8)) (hL : Laid w) :
    Calls Tryd.prog 32 #[.string s] w fun e w' => e = .returned (.tuple #[.agg #[.int .i64 r1, .int .i64 r2, .int .i64 r3, .int .i64 r4, .int .i64 r5, .int .i64 r6, .int .i64 r7], .int .i64 r8]) ∧ Below w.heap.size w w' := by
  obtain ⟨h26, q11, q14, q17, q20⟩ := hf
  have sl1 : ∀ w' : World, (Instr.slice 9 (.string s) (some (.int .i64 2)) (some (.int .i64 11)) none).run Tryd.prog w' = .ok (.string (s.extract 2 11)) w' := fun w' => by rw [run_slice_string (P := Tryd.prog) w' 9 s .i64 .i64 2 11 Tryd.underlying9 (by omega) (by omega) (by omega)]; rfl
  have sl2 : ∀ w' : World, (Instr.slice 9 (.string s) (some (.int .i64 12)) (some (.int .i64 14)) none).run Tryd.prog w' = .ok (.string (s.extract 12 14)) w' := fun w' => by rw [run_slice_string (P := Tryd.prog) w' 9 s .i64 .i64 12 14 Tryd.underlying9 (by omega) (by omega) (by omega)]; rfl
  have sl3 : ∀ w' : World, (Instr.slice 9 (.string s) (some (.int .i64 15)) (some (.int .i64 17)) none).run Tryd.prog w' = .ok (.string (s.extract 15 17)) w' := fun w' => by rw [run_slice_string (P := Tryd.prog) w' 9 s .i64 .i64 15 17 Tryd.underlying9 (by omega) (by omega) (by omega)]; rfl
  have sl4 : ∀ w' : World, (Instr.slice 9 (.string s) (some (.int .i64 18)) (some (.int .i64 20)) none).run Tryd.prog w' = .ok (.string (s.extract 18 20)) w' := fun w' => by rw [run_slice_string (P := Tryd.prog) w' 9 s .i64 .i64 18 20 Tryd.underlying9 (by omega) (by omega) (by omega)]; rfl
  have H1 : Hid (moment_digits.f 7 D = some (n, a)) := Lib.hid (by rw [digits_f 7 (by omega), h1])
  have H2 : Hid (moment_day.f n (s.extract 2 11) = some (y, mo, dd, 0, 0, 0, 0, b)) := Lib.hid (by unfold moment_day.f; rw [h2])
  have H3 : Hid (moment_below.f 7 (s.extract 12 14) 23 = some (hh, c)) := Lib.hid (by rw [below_f 7 (by omega), h3])
  have H4 : Hid (moment_below.f 7 (s.extract 15 17) 59 = some (mi, e)) := Lib.hid (by rw [below_f 7 (by omega), h4])
  have H5 : Hid (moment_below.f 7 (s.extract 18 20) 59 = some (se, f)) := Lib.hid (by rw [below_f 7 (by omega), h5])
  have H6 : Hid (moment_zone.f 10 (s.extract 21 s.size) = some (zz, g)) := Lib.hid (by rw [h26, zone_f 10 (by omega), h6])
  have HR := Lib.hid h
  have HLD := Lib.hid hL
  have g26 : ((s.size : Int) != 26) = false := by rw [bne_eq_false_iff_eq]; omega
  have hb11 : 11 < s.size := by omega
  have e11 : ((s[11]'hb11).toNat : Int) = 32 := by rw [at_bt]; exact q11
  have hb14 : 14 < s.size := by omega
  have e14 : ((s[14]'hb14).toNat : Int) = 58 := by rw [at_bt]; exact q14
  have hb17 : 17 < s.size := by omega
  have e17 : ((s[17]'hb17).toNat : Int) = 58 := by rw [at_bt]; exact q17
  have hb20 : 20 < s.size := by omega
  have e20 : ((s[20]'hb20).toNat : Int) = 32 := by rw [at_bt]; exact q20
  have hDt : D = if bt (s.extract 0 2) 0 = 32 then (s.extract 0 2).extract 1 (s.extract 0 2).size else s.extract 0 2 := by
    rw [← hD]; unfold dayT
    have : (s.extract 0 2).size = 2 := by rw [ByteArray.size_extract]; omega
    rw [this]
  have hT2 : (s.extract 0 2).size = 2 := by rw [ByteArray.size_extract]; omega
  have hb26 : 26 ≤ s.size := by omega
  have H26 := Lib.hid h26
  have HDT := Lib.hid hDt
  clear h1 h2 h3 h4 h5 h6 h hL hD hDt q11 q14 q17 q20 h26
  go_enter Tryd.func32, Tryd.ntmps32
  go_upto_region 4 with fail
  obtain ⟨T, hT⟩ : ∃ T, s.extract 0 2 = T := ⟨_, rfl⟩
  rw [hT] at HDT hT2 ⊢
  clear hT
  have hT0 : 0 < T.size := by omega
  have hT1 : 1 ≤ T.size := by omega
  have HT2 := Lib.hid hT2
  clear hT2
  have key : ∀ (W : World), True := fun _ => trivial
  clear key
  by_cases q0 : bt T 0 = 32
  · skip
    have e0 : ((T[0]'hT0).toNat : Int) = 32 := by rw [at_bt]; exact q0
    have HDD : Hid (D = T.extract 1 T.size) := Lib.hid (by rw [HDT.out, if_pos q0])
    clear q0 HDT
    have H1x : Hid (moment_digits.f 7 (T.extract 1 T.size) = some (n, a)) := Lib.hid (by rw [← HDD.out]; exact H1.out)
    go_wp2_with fail
    refine (moment_digits.calls 7 (T.extract 1 T.size) n a _ H1x.out).mono ?_
    rintro e1 w1 ⟨rfl, ⟨nd, rfl⟩⟩
    go_wp2_with fail
    refine (moment_day.calls n (s.extract 2 11) y mo dd 0 0 0 0 b _ H2.out).mono ?_
    rintro e1 w1 ⟨rfl, hb1⟩
    have hr1 : w1.heap[w.heap.size]? = some (.cells #[.int .i64 0, .int .i64 0, .int .i64 0, .int .i64 0, .int .i64 0, .int .i64 0, .int .i64 0] 23 (0, 0)) := (hb1.block w.heap.size (by simp)).trans (heap_alloc_new w _)
    have hbe1 : Below w.heap.size w w1 := below_step (by repeat (first | (with_reducible exact Below.refl _ _) | (with_reducible apply pw_below_drewN) | (with_reducible apply below_alloc))) hb1
    have HR1 := Lib.hid hr1
    have HBE1 := Lib.hid hbe1
    have hlt1 : w.heap.size < w1.heap.size := blk_lt hr1
    clear hb1 hr1 hbe1
    go_wp2_with fail
    have hmb := heap_alloc_new w1 (.cells #[.int .i64 y, .int .i64 mo, .int .i64 dd, .int .i64 0, .int .i64 0, .int .i64 0, .int .i64 0] 23)
    have hr2 := (Below.heap_alloc w1 (.cells #[.int .i64 y, .int .i64 mo, .int .i64 dd, .int .i64 0, .int .i64 0, .int .i64 0, .int .i64 0] 23) _ hlt1).trans HR1.out
    have hbe2 := below_alloc HBE1.out (.cells #[.int .i64 y, .int .i64 mo, .int .i64 dd, .int .i64 0, .int .i64 0, .int .i64 0, .int .i64 0] 23)
    generalize w1.alloc (.cells #[.int .i64 y, .int .i64 mo, .int .i64 dd, .int .i64 0, .int .i64 0, .int .i64 0, .int .i64 0] 23) = w2 at *
    generalize w1.heap.size = mb at *
    have HMB := Lib.hid hmb
    have HR2 := Lib.hid hr2
    have HBE2 := Lib.hid hbe2
    clear hmb hr2 hbe2 HR1 HBE1
    refine (moment_below.calls 7 (s.extract 12 14) 23 hh c _ H3.out).mono ?_
    rintro e1 w3 ⟨rfl, ⟨nd0, rfl⟩⟩
    go_wp2_with fail
    refine (moment_below.calls 7 (s.extract 15 17) 59 mi e _ H4.out).mono ?_
    rintro e1 w3 ⟨rfl, ⟨nd1, rfl⟩⟩
    go_wp2_with fail
    refine (moment_below.calls 7 (s.extract 18 20) 59 se f _ H5.out).mono ?_
    rintro e1 w3 ⟨rfl, ⟨nd2, rfl⟩⟩
    go_wp2_with fail
    refine (moment_zone.calls 10 (s.extract 21 s.size) zz g _ H6.out).mono ?_
    rintro e1 w3 ⟨rfl, ⟨nd9, rfl⟩⟩
    go_upto_region 12 with fail
    have hm3 := blk_drewN HMB.out (nd0 + nd1 + nd2 + nd9)
    have hr3 := blk_drewN HR2.out (nd0 + nd1 + nd2 + nd9)
    have hbe3 := pw_below_drewN HBE2.out (nd0 + nd1 + nd2 + nd9)
    generalize w2.drewN (nd0 + nd1 + nd2 + nd9) = W at *
    clear HMB HR2 HBE2
    obtain ⟨⟨c0, c1, c2, c3, c4, c5, c6⟩, fz⟩ := cells7 hm3
    have z3 := fz 3
    have z4 := fz 4
    have z5 := fz 5
    have z6 := fz 6
    have HM3 := Lib.hid hm3
    have HR3 := Lib.hid hr3
    have HBE3 := Lib.hid hbe3
    clear fz hm3 hr3 hbe3
    go_upto_region 13 with fail
    have hm4 := blk_put (cs' := #[.int .i64 y, .int .i64 mo, .int .i64 dd, .int .i64 hh, .int .i64 mi, .int .i64 se, .int .i64 zz]) (blk_put (cs' := #[.int .i64 y, .int .i64 mo, .int .i64 dd, .int .i64 hh, .int .i64 mi, .int .i64 se, .int .i64 0]) (blk_put (cs' := #[.int .i64 y, .int .i64 mo, .int .i64 dd, .int .i64 hh, .int .i64 mi, .int .i64 0, .int .i64 0]) (blk_put (cs' := #[.int .i64 y, .int .i64 mo, .int .i64 dd, .int .i64 hh, .int .i64 0, .int .i64 0, .int .i64 0]) HM3.out 3 (.int .i64 hh) rfl) 4 (.int .i64 mi) rfl) 5 (.int .i64 se) rfl) 6 (.int .i64 zz) rfl
    have hne : w.heap.size ≠ mb := Nat.ne_of_lt hlt1
    have hr4 := blk_far (p := ⟨mb, 6, none⟩) (blk_far (p := ⟨mb, 5, none⟩) (blk_far (p := ⟨mb, 4, none⟩) (blk_far (p := ⟨mb, 3, none⟩) HR3.out hne (.int .i64 hh)) hne (.int .i64 mi)) hne (.int .i64 se)) hne (.int .i64 zz)
    have hbe4 := (((HBE3.out.setCell (p := ⟨mb, 3, none⟩) (Nat.le_of_lt hlt1) (.int .i64 hh)).setCell (p := ⟨mb, 4, none⟩) (Nat.le_of_lt hlt1) (.int .i64 mi)).setCell (p := ⟨mb, 5, none⟩) (Nat.le_of_lt hlt1) (.int .i64 se)).setCell (p := ⟨mb, 6, none⟩) (Nat.le_of_lt hlt1) (.int .i64 zz)
    clear c0 c1 c2 c3 c4 c5 c6 z3 z4 z5 z6
    generalize (((W.setCell ⟨mb, 3, none⟩ (.int .i64 hh)).setCell ⟨mb, 4, none⟩ (.int .i64 mi)).setCell ⟨mb, 5, none⟩ (.int .i64 se)).setCell ⟨mb, 6, none⟩ (.int .i64 zz) = W2 at *
    obtain ⟨⟨c0, c1, c2, c3, c4, c5, c6⟩, _⟩ := cells7 hm4
    have HR4 := Lib.hid hr4
    have HBE4 := Lib.hid hbe4
    have HLD4 := Lib.hid (laid_below HLD.out hbe4)
    clear hm4 hr4 hbe4 HM3 HR3 HBE3 hne HLD sl1 sl2 sl3 sl4 e11 e14 e17 e20 g26
    cases a with
    | false =>
      have HK : Hid (moment_read.f y mo dd hh mi se zz false = some (r1, r2, r3, r4, r5, r6, r7, r8)) := Lib.hid (by have h := HR.out; simpa using h)
      clear HR
      go_wp2_with fail
      refine (moment_read.calls y mo dd hh mi se zz false r1 r2 r3 r4 r5 r6 r7 r8 _ HK.out HLD4.out).mono ?_
      rintro e1 w5 ⟨rfl, hb5⟩
      have hr5 := (hb5.block w.heap.size (blk_lt HR4.out)).trans HR4.out
      have HBE5 := Lib.hid (below_step HBE4.out hb5)
      clear c0 c1 c2 c3 c4 c5 c6 hb5
      obtain ⟨⟨c0, c1, c2, c3, c4, c5, c6⟩, fz⟩ := cells7 hr5
      have z0 := fz 0
      have z1 := fz 1
      have z2 := fz 2
      have z3 := fz 3
      have z4 := fz 4
      have z5 := fz 5
      have z6 := fz 6
      have HR5 := Lib.hid hr5
      clear fz hr5
      go_wp2
      exact bodyPost_ret (results_ct rfl _ _ w.heap.size 23 #[.int .i64 r1, .int .i64 r2, .int .i64 r3, .int .i64 r4, .int .i64 r5, .int .i64 r6, .int .i64 r7] (0, 0) _ rfl (set7 HR5.out _ _ _ _ _ _ _).1 Tryd.underlying23 rfl (by kernel_rfl)) rfl ⟨rfl, (set7 HR5.out _ _ _ _ _ _ _).2 _ _ HBE5.out (Nat.le_refl _)⟩
    | true =>
      cases b with
      | false =>
        have HK : Hid (moment_read.f y mo dd hh mi se zz false = some (r1, r2, r3, r4, r5, r6, r7, r8)) := Lib.hid (by have h := HR.out; simpa using h)
        clear HR
        go_wp2_with fail
        refine (moment_read.calls y mo dd hh mi se zz false r1 r2 r3 r4 r5 r6 r7 r8 _ HK.out HLD4.out).mono ?_
        rintro e1 w5 ⟨rfl, hb5⟩
        have hr5 := (hb5.block w.heap.size (blk_lt HR4.out)).trans HR4.out
        have HBE5 := Lib.hid (below_step HBE4.out hb5)
        clear c0 c1 c2 c3 c4 c5 c6 hb5
        obtain ⟨⟨c0, c1, c2, c3, c4, c5, c6⟩, fz⟩ := cells7 hr5
        have z0 := fz 0
        have z1 := fz 1
        have z2 := fz 2
        have z3 := fz 3
        have z4 := fz 4
        have z5 := fz 5
        have z6 := fz 6
        have HR5 := Lib.hid hr5
        clear fz hr5
        go_wp2
        exact bodyPost_ret (results_ct rfl _ _ w.heap.size 23 #[.int .i64 r1, .int .i64 r2, .int .i64 r3, .int .i64 r4, .int .i64 r5, .int .i64 r6, .int .i64 r7] (0, 0) _ rfl (set7 HR5.out _ _ _ _ _ _ _).1 Tryd.underlying23 rfl (by kernel_rfl)) rfl ⟨rfl, (set7 HR5.out _ _ _ _ _ _ _).2 _ _ HBE5.out (Nat.le_refl _)⟩
      | true =>
        cases c with
        | false =>
          have HK : Hid (moment_read.f y mo dd hh mi se zz false = some (r1, r2, r3, r4, r5, r6, r7, r8)) := Lib.hid (by have h := HR.out; simpa using h)
          clear HR
          go_wp2_with fail
          refine (moment_read.calls y mo dd hh mi se zz false r1 r2 r3 r4 r5 r6 r7 r8 _ HK.out HLD4.out).mono ?_
          rintro e1 w5 ⟨rfl, hb5⟩
          have hr5 := (hb5.block w.heap.size (blk_lt HR4.out)).trans HR4.out
          have HBE5 := Lib.hid (below_step HBE4.out hb5)
          clear c0 c1 c2 c3 c4 c5 c6 hb5
          obtain ⟨⟨c0, c1, c2, c3, c4, c5, c6⟩, fz⟩ := cells7 hr5
          have z0 := fz 0
          have z1 := fz 1
          have z2 := fz 2
          have z3 := fz 3
          have z4 := fz 4
          have z5 := fz 5
          have z6 := fz 6
          have HR5 := Lib.hid hr5
          clear fz hr5
          go_wp2
          exact bodyPost_ret (results_ct rfl _ _ w.heap.size 23 #[.int .i64 r1, .int .i64 r2, .int .i64 r3, .int .i64 r4, .int .i64 r5, .int .i64 r6, .int .i64 r7] (0, 0) _ rfl (set7 HR5.out _ _ _ _ _ _ _).1 Tryd.underlying23 rfl (by kernel_rfl)) rfl ⟨rfl, (set7 HR5.out _ _ _ _ _ _ _).2 _ _ HBE5.out (Nat.le_refl _)⟩
        | true =>
          cases e with
          | false =>
            have HK : Hid (moment_read.f y mo dd hh mi se zz false = some (r1, r2, r3, r4, r5, r6, r7, r8)) := Lib.hid (by have h := HR.out; simpa using h)
            clear HR
            go_wp2_with fail
            refine (moment_read.calls y mo dd hh mi se zz false r1 r2 r3 r4 r5 r6 r7 r8 _ HK.out HLD4.out).mono ?_
            rintro e1 w5 ⟨rfl, hb5⟩
            have hr5 := (hb5.block w.heap.size (blk_lt HR4.out)).trans HR4.out
            have HBE5 := Lib.hid (below_step HBE4.out hb5)
            clear c0 c1 c2 c3 c4 c5 c6 hb5
            obtain ⟨⟨c0, c1, c2, c3, c4, c5, c6⟩, fz⟩ := cells7 hr5
            have z0 := fz 0
            have z1 := fz 1
            have z2 := fz 2
            have z3 := fz 3
            have z4 := fz 4
            have z5 := fz 5
            have z6 := fz 6
            have HR5 := Lib.hid hr5
            clear fz hr5
            go_wp2
            exact bodyPost_ret (results_ct rfl _ _ w.heap.size 23 #[.int .i64 r1, .int .i64 r2, .int .i64 r3, .int .i64 r4, .int .i64 r5, .int .i64 r6, .int .i64 r7] (0, 0) _ rfl (set7 HR5.out _ _ _ _ _ _ _).1 Tryd.underlying23 rfl (by kernel_rfl)) rfl ⟨rfl, (set7 HR5.out _ _ _ _ _ _ _).2 _ _ HBE5.out (Nat.le_refl _)⟩
          | true =>
            cases f with
            | false =>
              have HK : Hid (moment_read.f y mo dd hh mi se zz false = some (r1, r2, r3, r4, r5, r6, r7, r8)) := Lib.hid (by have h := HR.out; simpa using h)
              clear HR
              go_wp2_with fail
              refine (moment_read.calls y mo dd hh mi se zz false r1 r2 r3 r4 r5 r6 r7 r8 _ HK.out HLD4.out).mono ?_
              rintro e1 w5 ⟨rfl, hb5⟩
              have hr5 := (hb5.block w.heap.size (blk_lt HR4.out)).trans HR4.out
              have HBE5 := Lib.hid (below_step HBE4.out hb5)
              clear c0 c1 c2 c3 c4 c5 c6 hb5
              obtain ⟨⟨c0, c1, c2, c3, c4, c5, c6⟩, fz⟩ := cells7 hr5
              have z0 := fz 0
              have z1 := fz 1
              have z2 := fz 2
              have z3 := fz 3
              have z4 := fz 4
              have z5 := fz 5
              have z6 := fz 6
              have HR5 := Lib.hid hr5
              clear fz hr5
              go_wp2
              exact bodyPost_ret (results_ct rfl _ _ w.heap.size 23 #[.int .i64 r1, .int .i64 r2, .int .i64 r3, .int .i64 r4, .int .i64 r5, .int .i64 r6, .int .i64 r7] (0, 0) _ rfl (set7 HR5.out _ _ _ _ _ _ _).1 Tryd.underlying23 rfl (by kernel_rfl)) rfl ⟨rfl, (set7 HR5.out _ _ _ _ _ _ _).2 _ _ HBE5.out (Nat.le_refl _)⟩
            | true =>
              cases g with
              | false =>
                have HK : Hid (moment_read.f y mo dd hh mi se zz false = some (r1, r2, r3, r4, r5, r6, r7, r8)) := Lib.hid (by have h := HR.out; simpa using h)
                clear HR
                go_wp2_with fail
                refine (moment_read.calls y mo dd hh mi se zz false r1 r2 r3 r4 r5 r6 r7 r8 _ HK.out HLD4.out).mono ?_
                rintro e1 w5 ⟨rfl, hb5⟩
                have hr5 := (hb5.block w.heap.size (blk_lt HR4.out)).trans HR4.out
                have HBE5 := Lib.hid (below_step HBE4.out hb5)
                clear c0 c1 c2 c3 c4 c5 c6 hb5
                obtain ⟨⟨c0, c1, c2, c3, c4, c5, c6⟩, fz⟩ := cells7 hr5
                have z0 := fz 0
                have z1 := fz 1
                have z2 := fz 2
                have z3 := fz 3
                have z4 := fz 4
                have z5 := fz 5
                have z6 := fz 6
                have HR5 := Lib.hid hr5
                clear fz hr5
                go_wp2
                exact bodyPost_ret (results_ct rfl _ _ w.heap.size 23 #[.int .i64 r1, .int .i64 r2, .int .i64 r3, .int .i64 r4, .int .i64 r5, .int .i64 r6, .int .i64 r7] (0, 0) _ rfl (set7 HR5.out _ _ _ _ _ _ _).1 Tryd.underlying23 rfl (by kernel_rfl)) rfl ⟨rfl, (set7 HR5.out _ _ _ _ _ _ _).2 _ _ HBE5.out (Nat.le_refl _)⟩
              | true =>
                have HK : Hid (moment_read.f y mo dd hh mi se zz true = some (r1, r2, r3, r4, r5, r6, r7, r8)) := Lib.hid (by have h := HR.out; simpa using h)
                clear HR
                go_wp2_with fail
                refine (moment_read.calls y mo dd hh mi se zz true r1 r2 r3 r4 r5 r6 r7 r8 _ HK.out HLD4.out).mono ?_
                rintro e1 w5 ⟨rfl, hb5⟩
                have hr5 := (hb5.block w.heap.size (blk_lt HR4.out)).trans HR4.out
                have HBE5 := Lib.hid (below_step HBE4.out hb5)
                clear c0 c1 c2 c3 c4 c5 c6 hb5
                obtain ⟨⟨c0, c1, c2, c3, c4, c5, c6⟩, fz⟩ := cells7 hr5
                have z0 := fz 0
                have z1 := fz 1
                have z2 := fz 2
                have z3 := fz 3
                have z4 := fz 4
                have z5 := fz 5
                have z6 := fz 6
                have HR5 := Lib.hid hr5
                clear fz hr5
                go_wp2
                exact bodyPost_ret (results_ct rfl _ _ w.heap.size 23 #[.int .i64 r1, .int .i64 r2, .int .i64 r3, .int .i64 r4, .int .i64 r5, .int .i64 r6, .int .i64 r7] (0, 0) _ rfl (set7 HR5.out _ _ _ _ _ _ _).1 Tryd.underlying23 rfl (by kernel_rfl)) rfl ⟨rfl, (set7 HR5.out _ _ _ _ _ _ _).2 _ _ HBE5.out (Nat.le_refl _)⟩
  · skip
    have e0 : (((T[0]'hT0).toNat : Int) == 32) = false := by rw [beq_eq_false_iff_ne, at_bt]; exact q0
    have HDD : Hid (D = T) := Lib.hid (by rw [HDT.out, if_neg q0])
    clear q0 HDT
    have H1x : Hid (moment_digits.f 7 T = some (n, a)) := Lib.hid (by rw [← HDD.out]; exact H1.out)
    go_wp2_with fail
    refine (moment_digits.calls 7 T n a _ H1x.out).mono ?_
    rintro e1 w1 ⟨rfl, ⟨nd, rfl⟩⟩
    go_wp2_with fail
    refine (moment_day.calls n (s.extract 2 11) y mo dd 0 0 0 0 b _ H2.out).mono ?_
    rintro e1 w1 ⟨rfl, hb1⟩
    have hr1 : w1.heap[w.heap.size]? = some (.cells #[.int .i64 0, .int .i64 0, .int .i64 0, .int .i64 0, .int .i64 0, .int .i64 0, .int .i64 0] 23 (0, 0)) := (hb1.block w.heap.size (by simp)).trans (heap_alloc_new w _)
    have hbe1 : Below w.heap.size w w1 := below_step (by repeat (first | (with_reducible exact Below.refl _ _) | (with_reducible apply pw_below_drewN) | (with_reducible apply below_alloc))) hb1
    have HR1 := Lib.hid hr1
    have HBE1 := Lib.hid hbe1
    have hlt1 : w.heap.size < w1.heap.size := blk_lt hr1
    clear hb1 hr1 hbe1
    go_wp2_with fail
    have hmb := heap_alloc_new w1 (.cells #[.int .i64 y, .int .i64 mo, .int .i64 dd, .int .i64 0, .int .i64 0, .int .i64 0, .int .i64 0] 23)
    have hr2 := (Below.heap_alloc w1 (.cells #[.int .i64 y, .int .i64 mo, .int .i64 dd, .int .i64 0, .int .i64 0, .int .i64 0, .int .i64 0] 23) _ hlt1).trans HR1.out
    have hbe2 := below_alloc HBE1.out (.cells #[.int .i64 y, .int .i64 mo, .int .i64 dd, .int .i64 0, .int .i64 0, .int .i64 0, .int .i64 0] 23)
    generalize w1.alloc (.cells #[.int .i64 y, .int .i64 mo, .int .i64 dd, .int .i64 0, .int .i64 0, .int .i64 0, .int .i64 0] 23) = w2 at *
    generalize w1.heap.size = mb at *
    have HMB := Lib.hid hmb
    have HR2 := Lib.hid hr2
    have HBE2 := Lib.hid hbe2
    clear hmb hr2 hbe2 HR1 HBE1
    refine (moment_below.calls 7 (s.extract 12 14) 23 hh c _ H3.out).mono ?_
    rintro e1 w3 ⟨rfl, ⟨nd0, rfl⟩⟩
    go_wp2_with fail
    refine (moment_below.calls 7 (s.extract 15 17) 59 mi e _ H4.out).mono ?_
    rintro e1 w3 ⟨rfl, ⟨nd1, rfl⟩⟩
    go_wp2_with fail
    refine (moment_below.calls 7 (s.extract 18 20) 59 se f _ H5.out).mono ?_
    rintro e1 w3 ⟨rfl, ⟨nd2, rfl⟩⟩
    go_wp2_with fail
    refine (moment_zone.calls 10 (s.extract 21 s.size) zz g _ H6.out).mono ?_
    rintro e1 w3 ⟨rfl, ⟨nd9, rfl⟩⟩
    go_upto_region 12 with fail
    have hm3 := blk_drewN HMB.out (nd0 + nd1 + nd2 + nd9)
    have hr3 := blk_drewN HR2.out (nd0 + nd1 + nd2 + nd9)
    have hbe3 := pw_below_drewN HBE2.out (nd0 + nd1 + nd2 + nd9)
    generalize w2.drewN (nd0 + nd1 + nd2 + nd9) = W at *
    clear HMB HR2 HBE2
    obtain ⟨⟨c0, c1, c2, c3, c4, c5, c6⟩, fz⟩ := cells7 hm3
    have z3 := fz 3
    have z4 := fz 4
    have z5 := fz 5
    have z6 := fz 6
    have HM3 := Lib.hid hm3
    have HR3 := Lib.hid hr3
    have HBE3 := Lib.hid hbe3
    clear fz hm3 hr3 hbe3
    go_upto_region 13 with fail
    have hm4 := blk_put (cs' := #[.int .i64 y, .int .i64 mo, .int .i64 dd, .int .i64 hh, .int .i64 mi, .int .i64 se, .int .i64 zz]) (blk_put (cs' := #[.int .i64 y, .int .i64 mo, .int .i64 dd, .int .i64 hh, .int .i64 mi, .int .i64 se, .int .i64 0]) (blk_put (cs' := #[.int .i64 y, .int .i64 mo, .int .i64 dd, .int .i64 hh, .int .i64 mi, .int .i64 0, .int .i64 0]) (blk_put (cs' := #[.int .i64 y, .int .i64 mo, .int .i64 dd, .int .i64 hh, .int .i64 0, .int .i64 0, .int .i64 0]) HM3.out 3 (.int .i64 hh) rfl) 4 (.int .i64 mi) rfl) 5 (.int .i64 se) rfl) 6 (.int .i64 zz) rfl
    have hne : w.heap.size ≠ mb := Nat.ne_of_lt hlt1
    have hr4 := blk_far (p := ⟨mb, 6, none⟩) (blk_far (p := ⟨mb, 5, none⟩) (blk_far (p := ⟨mb, 4, none⟩) (blk_far (p := ⟨mb, 3, none⟩) HR3.out hne (.int .i64 hh)) hne (.int .i64 mi)) hne (.int .i64 se)) hne (.int .i64 zz)
    have hbe4 := (((HBE3.out.setCell (p := ⟨mb, 3, none⟩) (Nat.le_of_lt hlt1) (.int .i64 hh)).setCell (p := ⟨mb, 4, none⟩) (Nat.le_of_lt hlt1) (.int .i64 mi)).setCell (p := ⟨mb, 5, none⟩) (Nat.le_of_lt hlt1) (.int .i64 se)).setCell (p := ⟨mb, 6, none⟩) (Nat.le_of_lt hlt1) (.int .i64 zz)
    clear c0 c1 c2 c3 c4 c5 c6 z3 z4 z5 z6
    generalize (((W.setCell ⟨mb, 3, none⟩ (.int .i64 hh)).setCell ⟨mb, 4, none⟩ (.int .i64 mi)).setCell ⟨mb, 5, none⟩ (.int .i64 se)).setCell ⟨mb, 6, none⟩ (.int .i64 zz) = W2 at *
    obtain ⟨⟨c0, c1, c2, c3, c4, c5, c6⟩, _⟩ := cells7 hm4
    have HR4 := Lib.hid hr4
    have HBE4 := Lib.hid hbe4
    have HLD4 := Lib.hid (laid_below HLD.out hbe4)
    clear hm4 hr4 hbe4 HM3 HR3 HBE3 hne HLD sl1 sl2 sl3 sl4 e11 e14 e17 e20 g26
    cases a with
    | false =>
      have HK : Hid (moment_read.f y mo dd hh mi se zz false = some (r1, r2, r3, r4, r5, r6, r7, r8)) := Lib.hid (by have h := HR.out; simpa using h)
      clear HR
      go_wp2_with fail
      refine (moment_read.calls y mo dd hh mi se zz false r1 r2 r3 r4 r5 r6 r7 r8 _ HK.out HLD4.out).mono ?_
      rintro e1 w5 ⟨rfl, hb5⟩
      have hr5 := (hb5.block w.heap.size (blk_lt HR4.out)).trans HR4.out
      have HBE5 := Lib.hid (below_step HBE4.out hb5)
      clear c0 c1 c2 c3 c4 c5 c6 hb5
      obtain ⟨⟨c0, c1, c2, c3, c4, c5, c6⟩, fz⟩ := cells7 hr5
      have z0 := fz 0
      have z1 := fz 1
      have z2 := fz 2
      have z3 := fz 3
      have z4 := fz 4
      have z5 := fz 5
      have z6 := fz 6
      have HR5 := Lib.hid hr5
      clear fz hr5
      go_wp2
      exact bodyPost_ret (results_ct rfl _ _ w.heap.size 23 #[.int .i64 r1, .int .i64 r2, .int .i64 r3, .int .i64 r4, .int .i64 r5, .int .i64 r6, .int .i64 r7] (0, 0) _ rfl (set7 HR5.out _ _ _ _ _ _ _).1 Tryd.underlying23 rfl (by kernel_rfl)) rfl ⟨rfl, (set7 HR5.out _ _ _ _ _ _ _).2 _ _ HBE5.out (Nat.le_refl _)⟩
    | true =>
      cases b with
      | false =>
        have HK : Hid (moment_read.f y mo dd hh mi se zz false = some (r1, r2, r3, r4, r5, r6, r7, r8)) := Lib.hid (by have h := HR.out; simpa using h)
        clear HR
        go_wp2_with fail
        refine (moment_read.calls y mo dd hh mi se zz false r1 r2 r3 r4 r5 r6 r7 r8 _ HK.out HLD4.out).mono ?_
        rintro e1 w5 ⟨rfl, hb5⟩
        have hr5 := (hb5.block w.heap.size (blk_lt HR4.out)).trans HR4.out
        have HBE5 := Lib.hid (below_step HBE4.out hb5)
        clear c0 c1 c2 c3 c4 c5 c6 hb5
        obtain ⟨⟨c0, c1, c2, c3, c4, c5, c6⟩, fz⟩ := cells7 hr5
        have z0 := fz 0
        have z1 := fz 1
        have z2 := fz 2
        have z3 := fz 3
        have z4 := fz 4
        have z5 := fz 5
        have z6 := fz 6
        have HR5 := Lib.hid hr5
        clear fz hr5
        go_wp2
        exact bodyPost_ret (results_ct rfl _ _ w.heap.size 23 #[.int .i64 r1, .int .i64 r2, .int .i64 r3, .int .i64 r4, .int .i64 r5, .int .i64 r6, .int .i64 r7] (0, 0) _ rfl (set7 HR5.out _ _ _ _ _ _ _).1 Tryd.underlying23 rfl (by kernel_rfl)) rfl ⟨rfl, (set7 HR5.out _ _ _ _ _ _ _).2 _ _ HBE5.out (Nat.le_refl _)⟩
      | true =>
        cases c with
        | false =>
          have HK : Hid (moment_read.f y mo dd hh mi se zz false = some (r1, r2, r3, r4, r5, r6, r7, r8)) := Lib.hid (by have h := HR.out; simpa using h)
          clear HR
          go_wp2_with fail
          refine (moment_read.calls y mo dd hh mi se zz false r1 r2 r3 r4 r5 r6 r7 r8 _ HK.out HLD4.out).mono ?_
          rintro e1 w5 ⟨rfl, hb5⟩
          have hr5 := (hb5.block w.heap.size (blk_lt HR4.out)).trans HR4.out
          have HBE5 := Lib.hid (below_step HBE4.out hb5)
          clear c0 c1 c2 c3 c4 c5 c6 hb5
          obtain ⟨⟨c0, c1, c2, c3, c4, c5, c6⟩, fz⟩ := cells7 hr5
          have z0 := fz 0
          have z1 := fz 1
          have z2 := fz 2
          have z3 := fz 3
          have z4 := fz 4
          have z5 := fz 5
          have z6 := fz 6
          have HR5 := Lib.hid hr5
          clear fz hr5
          go_wp2
          exact bodyPost_ret (results_ct rfl _ _ w.heap.size 23 #[.int .i64 r1, .int .i64 r2, .int .i64 r3, .int .i64 r4, .int .i64 r5, .int .i64 r6, .int .i64 r7] (0, 0) _ rfl (set7 HR5.out _ _ _ _ _ _ _).1 Tryd.underlying23 rfl (by kernel_rfl)) rfl ⟨rfl, (set7 HR5.out _ _ _ _ _ _ _).2 _ _ HBE5.out (Nat.le_refl _)⟩
        | true =>
          cases e with
          | false =>
            have HK : Hid (moment_read.f y mo dd hh mi se zz false = some (r1, r2, r3, r4, r5, r6, r7, r8)) := Lib.hid (by have h := HR.out; simpa using h)
            clear HR
            go_wp2_with fail
            refine (moment_read.calls y mo dd hh mi se zz false r1 r2 r3 r4 r5 r6 r7 r8 _ HK.out HLD4.out).mono ?_
            rintro e1 w5 ⟨rfl, hb5⟩
            have hr5 := (hb5.block w.heap.size (blk_lt HR4.out)).trans HR4.out
            have HBE5 := Lib.hid (below_step HBE4.out hb5)
            clear c0 c1 c2 c3 c4 c5 c6 hb5
            obtain ⟨⟨c0, c1, c2, c3, c4, c5, c6⟩, fz⟩ := cells7 hr5
            have z0 := fz 0
            have z1 := fz 1
            have z2 := fz 2
            have z3 := fz 3
            have z4 := fz 4
            have z5 := fz 5
            have z6 := fz 6
            have HR5 := Lib.hid hr5
            clear fz hr5
            go_wp2
            exact bodyPost_ret (results_ct rfl _ _ w.heap.size 23 #[.int .i64 r1, .int .i64 r2, .int .i64 r3, .int .i64 r4, .int .i64 r5, .int .i64 r6, .int .i64 r7] (0, 0) _ rfl (set7 HR5.out _ _ _ _ _ _ _).1 Tryd.underlying23 rfl (by kernel_rfl)) rfl ⟨rfl, (set7 HR5.out _ _ _ _ _ _ _).2 _ _ HBE5.out (Nat.le_refl _)⟩
          | true =>
            cases f with
            | false =>
              have HK : Hid (moment_read.f y mo dd hh mi se zz false = some (r1, r2, r3, r4, r5, r6, r7, r8)) := Lib.hid (by have h := HR.out; simpa using h)
              clear HR
              go_wp2_with fail
              refine (moment_read.calls y mo dd hh mi se zz false r1 r2 r3 r4 r5 r6 r7 r8 _ HK.out HLD4.out).mono ?_
              rintro e1 w5 ⟨rfl, hb5⟩
              have hr5 := (hb5.block w.heap.size (blk_lt HR4.out)).trans HR4.out
              have HBE5 := Lib.hid (below_step HBE4.out hb5)
              clear c0 c1 c2 c3 c4 c5 c6 hb5
              obtain ⟨⟨c0, c1, c2, c3, c4, c5, c6⟩, fz⟩ := cells7 hr5
              have z0 := fz 0
              have z1 := fz 1
              have z2 := fz 2
              have z3 := fz 3
              have z4 := fz 4
              have z5 := fz 5
              have z6 := fz 6
              have HR5 := Lib.hid hr5
              clear fz hr5
              go_wp2
              exact bodyPost_ret (results_ct rfl _ _ w.heap.size 23 #[.int .i64 r1, .int .i64 r2, .int .i64 r3, .int .i64 r4, .int .i64 r5, .int .i64 r6, .int .i64 r7] (0, 0) _ rfl (set7 HR5.out _ _ _ _ _ _ _).1 Tryd.underlying23 rfl (by kernel_rfl)) rfl ⟨rfl, (set7 HR5.out _ _ _ _ _ _ _).2 _ _ HBE5.out (Nat.le_refl _)⟩
            | true =>
              cases g with
              | false =>
                have HK : Hid (moment_read.f y mo dd hh mi se zz false = some (r1, r2, r3, r4, r5, r6, r7, r8)) := Lib.hid (by have h := HR.out; simpa using h)
                clear HR
                go_wp2_with fail
                refine (moment_read.calls y mo dd hh mi se zz false r1 r2 r3 r4 r5 r6 r7 r8 _ HK.out HLD4.out).mono ?_
                rintro e1 w5 ⟨rfl, hb5⟩
                have hr5 := (hb5.block w.heap.size (blk_lt HR4.out)).trans HR4.out
                have HBE5 := Lib.hid (below_step HBE4.out hb5)
                clear c0 c1 c2 c3 c4 c5 c6 hb5
                obtain ⟨⟨c0, c1, c2, c3, c4, c5, c6⟩, fz⟩ := cells7 hr5
                have z0 := fz 0
                have z1 := fz 1
                have z2 := fz 2
                have z3 := fz 3
                have z4 := fz 4
                have z5 := fz 5
                have z6 := fz 6
                have HR5 := Lib.hid hr5
                clear fz hr5
                go_wp2
                exact bodyPost_ret (results_ct rfl _ _ w.heap.size 23 #[.int .i64 r1, .int .i64 r2, .int .i64 r3, .int .i64 r4, .int .i64 r5, .int .i64 r6, .int .i64 r7] (0, 0) _ rfl (set7 HR5.out _ _ _ _ _ _ _).1 Tryd.underlying23 rfl (by kernel_rfl)) rfl ⟨rfl, (set7 HR5.out _ _ _ _ _ _ _).2 _ _ HBE5.out (Nat.le_refl _)⟩
              | true =>
                have HK : Hid (moment_read.f y mo dd hh mi se zz true = some (r1, r2, r3, r4, r5, r6, r7, r8)) := Lib.hid (by have h := HR.out; simpa using h)
                clear HR
                go_wp2_with fail
                refine (moment_read.calls y mo dd hh mi se zz true r1 r2 r3 r4 r5 r6 r7 r8 _ HK.out HLD4.out).mono ?_
                rintro e1 w5 ⟨rfl, hb5⟩
                have hr5 := (hb5.block w.heap.size (blk_lt HR4.out)).trans HR4.out
                have HBE5 := Lib.hid (below_step HBE4.out hb5)
                clear c0 c1 c2 c3 c4 c5 c6 hb5
                obtain ⟨⟨c0, c1, c2, c3, c4, c5, c6⟩, fz⟩ := cells7 hr5
                have z0 := fz 0
                have z1 := fz 1
                have z2 := fz 2
                have z3 := fz 3
                have z4 := fz 4
                have z5 := fz 5
                have z6 := fz 6
                have HR5 := Lib.hid hr5
                clear fz hr5
                go_wp2
                exact bodyPost_ret (results_ct rfl _ _ w.heap.size 23 #[.int .i64 r1, .int .i64 r2, .int .i64 r3, .int .i64 r4, .int .i64 r5, .int .i64 r6, .int .i64 r7] (0, 0) _ rfl (set7 HR5.out _ _ _ _ _ _ _).1 Tryd.underlying23 rfl (by kernel_rfl)) rfl ⟨rfl, (set7 HR5.out _ _ _ _ _ _ _).2 _ _ HBE5.out (Nat.le_refl _)⟩
theorem moment_ReadInternal.calls (a0 : ByteArray) (r1 r2 r3 r4 r5 r6 r7 r8 : Int) (w : World) (h : moment_ReadInternal.f a0 = some (r1, r2, r3, r4, r5, r6, r7, r8)) (hL : Laid w) :
    Calls Tryd.prog 32 #[.string a0] w fun e w' => e = .returned (.tuple #[.agg #[.int .i64 r1, .int .i64 r2, .int .i64 r3, .int .i64 r4, .int .i64 r5, .int .i64 r6, .int .i64 r7], .int .i64 r8]) ∧ Below w.heap.size w w' := by
  unfold moment_ReadInternal.f at h
  by_cases hf : formI a0
  · rw [if_pos hf] at h
    exact ri_yes a0 (dayT a0) (riD a0).1 (riY a0).1 (riY a0).2.1 (riY a0).2.2.1 (riH a0).1 (riM a0).1 (riS a0).1 (riZ a0).1 (riD a0).2 (riY a0).2.2.2 (riH a0).2 (riM a0).2 (riS a0).2 (riZ a0).2 r1 r2 r3 r4 r5 r6 r7 r8 w hf rfl (pair_eta _) (quad_eta _) (pair_eta _) (pair_eta _) (pair_eta _) (pair_eta _) h hL
  · rw [if_neg hf] at h
    have h := Option.some.inj h
    simp only [Prod.mk.injEq] at h
    obtain ⟨rfl, rfl, rfl, rfl, rfl, rfl, rfl, rfl⟩ := h
    exact ri_no a0 w hf hL
end Go.Proofs.YtjlchnmpebdggaaDoor.Mo
end
section
namespace Go.Proofs.YtjlchnmpebdggaaDoor.Mo
open Go.RowKit Go.Proofs.YtjlchnmpebdggaaDoorW.PrintWords
set_option linter.unusedVariables false
def refD (s : ByteArray) : ByteArray := if bt s 0 = 32 then s.extract 1 2 else s.extract 0 2
end Go.Proofs.YtjlchnmpebdggaaDoor.Mo
end
section
namespace Go.Proofs.YtjlchnmpebdggaaDoor.Mo
open Go.RowKit Go.Proofs.YtjlchnmpebdggaaDoorW.PrintWords
theorem refD_dayT (s : ByteArray) (h : s.size = 26) : dayT s = refD s := by
  unfold dayT refD
  have e : bt (s.extract 0 2) 0 = bt s 0 := by
    have h2 : (s.extract 0 2).size = 2 := by rw [ByteArray.size_extract]; omega
    have q1 := at_bt (s.extract 0 2) 0 (by omega)
    have q2 := at_bt s 0 (by omega)
    rw [show ((0 : Nat) : Int) = 0 from rfl] at q1 q2
    rw [← q1, ← q2, ByteArray.getElem_extract]
  have e2 : (s.extract 0 2).extract 1 2 = s.extract 1 2 := by
    rw [ByteArray.extract_extract]
    rfl
  rw [e, e2]
end Go.Proofs.YtjlchnmpebdggaaDoor.Mo
end
section
namespace Go.Proofs.YtjlchnmpebdggaaDoor.Mo
open Go.RowKit Go.Proofs.YtjlchnmpebdggaaDoorW.PrintWords
def isLet (c : UInt8) : Bool := decide (65 ≤ c.toNat) && decide (c.toNat ≤ 90) || decide (97 ≤ c.toNat) && decide (c.toNat ≤ 122)
def Cur (c t : Nat) (s : ByteArray) (i : Nat) (k : Int) (x : ByteArray) (w : World) : Prop := w.heap[c]? = some (.cells #[.string s, .int .i64 i, .int .i64 k, .string x] t (0, 0))
structure Turned (c : Nat) (w w' : World) : Prop where
  size : w.heap.size ≤ w'.heap.size
  other : ∀ i, i < w.heap.size → i ≠ c → w'.heap[i]? = w.heap[i]?
  below : ∀ (B : Nat) (w0 : World), Below B w0 w → B ≤ c → B ≤ w.heap.size → Below B w0 w'
theorem Turned.refl (c : Nat) (w : World) : Turned c w w := ⟨Nat.le_refl _, fun _ _ _ => rfl, fun _ _ h _ _ => h⟩
theorem Turned.trans {c : Nat} {w w1 w2 : World} (h : Turned c w w1) (k : Turned c w1 w2) : Turned c w w2 :=
  ⟨Nat.le_trans h.size k.size, fun i hi hn => (k.other i (Nat.lt_of_lt_of_le hi h.size) hn).trans (h.other i hi hn), fun B w0 hb hc hs => k.below B w0 (h.below B w0 hb hc hs) hc (Nat.le_trans hs h.size)⟩
theorem Turned.drewN {c : Nat} {w w1 : World} (h : Turned c w w1) (n : Nat) : Turned c w (w1.drewN n) := ⟨h.size, h.other, fun B w0 hb hc hs => pw_below_drewN (h.below B w0 hb hc hs) n⟩
theorem Turned.drew {c : Nat} {w w1 : World} (h : Turned c w w1) : Turned c w w1.drew := ⟨h.size, h.other, fun B w0 hb hc hs => below_drew (h.below B w0 hb hc hs)⟩
theorem Turned.set {c : Nat} {w w1 : World} (h : Turned c w w1) (j : Nat) (v : Value) : Turned c w (w1.setCell ⟨c, j, none⟩ v) :=
  ⟨by simpa [World.setCell] using h.size, fun i hi hn => (heap_setCell_other _ _ _ _ hn).trans (h.other i hi hn), fun B w0 hb hc hs => (h.below B w0 hb hc hs).setCell (p := ⟨c, j, none⟩) hc v⟩
theorem Turned.alloc {c : Nat} {w w1 : World} (h : Turned c w w1) (o : Obj) : Turned c w (w1.alloc o) :=
  ⟨by have := h.size; simp; omega, fun i hi hn => (Below.heap_alloc _ _ _ (Nat.lt_of_lt_of_le hi h.size)).trans (h.other i hi hn), fun B w0 hb hc hs => (h.below B w0 hb hc hs).alloc (Nat.le_trans hs h.size) o⟩
theorem Turned.made {c : Nat} {w w1 w2 : World} (h : Turned c w w1) (k : Below w1.heap.size w1 w2) : Turned c w w2 :=
  ⟨Nat.le_trans h.size k.size, fun i hi hn => (k.block i (Nat.lt_of_lt_of_le hi h.size)).trans (h.other i hi hn), fun B w0 hb hc hs => (h.below B w0 hb hc hs).trans (k.mono (Nat.le_trans hs h.size))⟩
def runP (p : UInt8 → Bool) (l : List UInt8) (i : Nat) : Nat := i + ((l.drop i).takeWhile p).length
theorem runP_le (p : UInt8 → Bool) (l : List UInt8) (i : Nat) (h : i ≤ l.length) : runP p l i ≤ l.length ∧ i ≤ runP p l i := by
  unfold runP
  have := (List.takeWhile_prefix (l := l.drop i) p).length_le
  rw [List.length_drop] at this
  omega
theorem runP_end (p : UInt8 → Bool) (l : List UInt8) (i : Nat) (h : l.length ≤ i) : runP p l i = i := by
  unfold runP; rw [List.drop_of_length_le h]; rfl
theorem runP_yes (p : UInt8 → Bool) (l : List UInt8) (i : Nat) (h : i < l.length) (hp : p l[i] = true) : runP p l i = runP p l (i + 1) := by
  unfold runP; rw [List.drop_eq_getElem_cons h, List.takeWhile_cons, if_pos hp, List.length_cons]; omega
theorem runP_no (p : UInt8 → Bool) (l : List UInt8) (i : Nat) (h : i < l.length) (hp : p l[i] = false) : runP p l i = i := by
  unfold runP; rw [List.drop_eq_getElem_cons h, List.takeWhile_cons, if_neg (by simp [hp])]; rfl
structure Asks (fn : Nat) (p : UInt8 → Bool) : Prop where
  entry : ∀ (args : Array Value) (w : World), Sem.run Tryd.prog (callFunc fn args) w = .ok (.enter fn args) w
  tells : ∀ (b : UInt8) (w : World), Calls Tryd.prog fn #[.int .u8 b.toNat] w fun e w' => e = .returned (.bool (p b)) ∧ Drawn0 w w'
theorem cast_le (m : Nat) (b : UInt8) : ((b.toNat : Int) ≥ (m : Int)) = (m ≤ b.toNat) := propext ⟨fun h => by omega, fun h => by omega⟩
theorem cast_le2 (m : Nat) (b : UInt8) : decide ((b.toNat : Int) ≤ (m : Int)) = decide (b.toNat ≤ m) := decide_eq_decide.2 ⟨fun h => by omega, fun h => by omega⟩
theorem cast_le3 (m : Nat) (b : UInt8) : ((b.toNat : Int) ≤ (m : Int)) = (b.toNat ≤ m) := propext ⟨fun h => by omega, fun h => by omega⟩
theorem asks_letter : Asks 89 isLet where
  entry := fun args w => by kernel_rfl
  tells := fun b w => moment_isLetter.calls _ _ w (by
    unfold moment_isLetter.f isLet
    have e1 : ((b.toNat : Int) ≥ 65) = (65 ≤ b.toNat) := cast_le 65 b
    have e2 : ((b.toNat : Int) ≥ 97) = (97 ≤ b.toNat) := cast_le 97 b
    have e3 : decide ((b.toNat : Int) ≤ 122) = decide (b.toNat ≤ 122) := cast_le2 122 b
    have e4 : ((b.toNat : Int) ≤ 90) = (b.toNat ≤ 90) := cast_le3 90 b
    simp only [e1, e2, e3, e4]
    by_cases h1 : 65 ≤ b.toNat <;> by_cases h2 : b.toNat ≤ 90 <;> by_cases h3 : 97 ≤ b.toNat <;> simp [h1, h2, h3])
theorem asks_digit : Asks 91 isDig where
  entry := fun args w => by kernel_rfl
  tells := fun b w => moment_isDigit.calls _ _ w (by
    unfold moment_isDigit.f isDig
    have e1 : ((b.toNat : Int) ≥ 48) = (48 ≤ b.toNat) := cast_le 48 b
    have e3 : decide ((b.toNat : Int) ≤ 57) = decide (b.toNat ≤ 57) := cast_le2 57 b
    simp only [e1, e3]
    by_cases h1 : 48 ≤ b.toNat <;> simp [h1])
set_option maxHeartbeats 1000000 in
theorem run_calls (fn : Nat) (p : UInt8 → Bool) (hA : Asks fn p) (c t : Nat) (s : ByteArray) (i : Nat) (k : Int) (x : ByteArray) (w : World) (hs : s.size ≤ 140737488351232) (hi : i ≤ s.size) (hc : Cur c t s i k x w) :
    Calls Tryd.prog 90 #[.pointer (some ⟨c, 0, none⟩), .func (.func fn) #[] #[]] w fun e w' => e = .returned (.tuple #[]) ∧ Cur c t s (runP p s.data.toList i) k x w' ∧ Turned c w w' := by
  have HC := Lib.hid hc
  clear hc
  have hl := toList_len s
  go_enter Tryd.func90, Tryd.ntmps90
  go_wp2_with fail
  go_loopg [] (s.size - i) (fun n wr => ∃ j, n = s.size - j ∧ j ≤ s.size ∧ Cur c t s j k x wr ∧ runP p s.data.toList j = runP p s.data.toList i ∧ Turned c w wr)
  case atStart => exact ⟨i, rfl, hi, HC.out, rfl, Turned.refl _ _⟩
  case round =>
    obtain ⟨j, hn, hj, hcur, hr, hT⟩ := hrel
    have hcell : wr.heap[c]? = some (.cells #[.string s, .int .i64 j, .int .i64 k, .string x] t (0, 0)) := hcur
    have c0 : wr.cell? ⟨c, 0, none⟩ = some (.string s) := cell_of_row wr c 0 _ _ _ hcell
    have c1 : wr.cell? ⟨c, 1, none⟩ = some (.int .i64 (j : Nat)) := cell_of_row wr c 1 _ _ _ hcell
    have z1 : wr.frozen? ⟨c, 1, none⟩ = false := frozen_of_row wr c 1 _ _ hcell
    have HCUR := Lib.hid hcell
    have HR := Lib.hid hr
    have HN := Lib.hid hn
    have HT := Lib.hid hT
    clear hcell hcur hr hn hT
    by_cases hlt : j < s.size
    · have hlen : j < s.data.toList.length := by omega
      have hent := hA.entry
      have hbj : s[j]'hlt = s.data.toList[j]'hlen := rfl
      have hx0 : (0 : Int) ≤ (j : Int) := by omega
      have hx1 : (j : Int) < (s.size : Int) := by omega
      have htell := hA.tells (s.data.toList[j]'hlen)
      rw [← hbj] at htell
      cases hp : p (s.data.toList[j]'hlen) with
      | true =>
        rw [hbj, hp, ← hbj] at htell
        have HTELL := Lib.hid htell
        have HP := Lib.hid hp
        clear hp htell hbj
        go_wp2_with fail
        go_quiet (exact Calls.quiet_of ((HTELL.out _).mono (fun e w' h => ⟨h.1, h.2.out⟩)))
        go_wp2
        go_roundg (s.size - (j + 1))
        case measure => have := HN.out; omega
        case rel => exact ⟨j + 1, rfl, by omega, by
            have h := blk_put (cs' := #[.string s, .int .i64 ((j : Int) + 1), .int .i64 k, .string x]) (blk_drewN HCUR.out nq) 1 (.int .i64 ((j : Int) + 1)) rfl
            exact h, by rw [← HR.out, runP_yes _ _ _ hlen HP.out], (HT.out.drewN nq).set 1 _⟩
      | false =>
        rw [hbj, hp, ← hbj] at htell
        have HTELL := Lib.hid htell
        have HP := Lib.hid hp
        clear hp htell hbj
        go_wp2_with fail
        go_quiet (exact Calls.quiet_of ((HTELL.out _).mono (fun e w' h => ⟨h.1, h.2.out⟩)))
        go_wp2
        go_end0
        refine ⟨rfl, ?_, HT.out.drewN nq⟩
        rw [← HR.out, runP_no _ _ _ hlen HP.out]
        exact HCUR.out
    · have hlt' : s.size ≤ j := by omega
      have hg : decide ((j : Int) < (s.size : Int)) = false := decide_eq_false (by omega)
      have hg2 : decide (j < s.size) = false := decide_eq_false (by omega)
      go_wp2_with fail
      go_quiet (fail)
      go_wp2
      go_end0
      refine ⟨rfl, ?_, HT.out.drewN nq⟩
      rw [← HR.out, runP_end _ _ _ (by omega)]
      exact HCUR.out
end Go.Proofs.YtjlchnmpebdggaaDoor.Mo
end
