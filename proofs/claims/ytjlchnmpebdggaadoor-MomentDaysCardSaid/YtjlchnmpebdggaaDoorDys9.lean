import Derived.Test.YtjlchnmpebdggaaDoorDys2
import Derived.Test.YtjlchnmpebdggaaDoorDys3
import Derived.Test.YtjlchnmpebdggaaDoorDys4
import Derived.Test.YtjlchnmpebdggaaDoorDys7
import Derived.Test.YtjlchnmpebdggaaDoorDys8
section
namespace Go.Proofs.YtjlchnmpebdggaaDoor.Mo
open Go.RowKit Go.Proofs.YtjlchnmpebdggaaDoorW.PrintWords Go.Proofs.YtjlchnmpebdggaaDoorW.PrintLast Go.Proofs.YtjlchnmpebdggaaDoorW.PrintMore
attribute [local go_sem] max2_int min2_int max_two min_two max_three min_three max_four min_four   -- for this text's walks alone
set_option linter.unusedVariables false
set_option linter.unusedSimpArgs false
def moment_ReadDay.j0 : Nat → ByteArray → Int → Bool → Option (Int × Int × Int × Int × Int × Int × Int × Int)
 | 0, _, _, _ => none
 | k + 1, x0, x4, x17 => if x17 = true then ((moment_read.f 0 0 0 0 0 0 0 false).bind fun bt315 => (some (bt315.1, bt315.2.1, bt315.2.2.1, bt315.2.2.2.1, bt315.2.2.2.2.1, bt315.2.2.2.2.2.1, bt315.2.2.2.2.2.2.1, bt315.2.2.2.2.2.2.2))) else (if 0 ≤ x4 then (if x4 ≤ (x0.size : Int) then ((moment_digits.f k (x0.extract 0 (x4 : Int).toNat)).bind fun bt323 => ((moment_day.f bt323.1 (x0.extract (x4 : Int).toNat x0.size)).bind fun bt325 => (if bt323.2 = true then ((moment_read.f bt325.1 bt325.2.1 bt325.2.2.1 bt325.2.2.2.1 bt325.2.2.2.2.1 bt325.2.2.2.2.2.1 bt325.2.2.2.2.2.2.1 bt325.2.2.2.2.2.2.2).bind fun bt334 => (some (bt334.1, bt334.2.1, bt334.2.2.1, bt334.2.2.2.1, bt334.2.2.2.2.1, bt334.2.2.2.2.2.1, bt334.2.2.2.2.2.2.1, bt334.2.2.2.2.2.2.2))) else ((moment_read.f bt325.1 bt325.2.1 bt325.2.2.1 bt325.2.2.2.1 bt325.2.2.2.2.1 bt325.2.2.2.2.2.1 bt325.2.2.2.2.2.2.1 false).bind fun bt342 => (some (bt342.1, bt342.2.1, bt342.2.2.1, bt342.2.2.2.1, bt342.2.2.2.2.1, bt342.2.2.2.2.2.1, bt342.2.2.2.2.2.2.1, bt342.2.2.2.2.2.2.2)))))) else (none)) else (none))
def moment_ReadDay.f (k : Nat) (a0 : ByteArray) : Option (Int × Int × Int × Int × Int × Int × Int × Int) := if (wrap64 ((a0.size : Int) - 9)) = 1 then (moment_ReadDay.j0 k a0 (wrap64 ((a0.size : Int) - 9)) false) else (moment_ReadDay.j0 k a0 (wrap64 ((a0.size : Int) - 9)) ((wrap64 ((a0.size : Int) - 9)) != 2))
set_option maxHeartbeats 8000000 in
set_option maxRecDepth 100000 in
theorem moment_ReadDay.calls (k : Nat) (a0 : ByteArray) (r1 : Int) (r2 : Int) (r3 : Int) (r4 : Int) (r5 : Int) (r6 : Int) (r7 : Int) (r8 : Int) (w : World) (h : moment_ReadDay.f k a0 = some (r1, r2, r3, r4, r5, r6, r7, r8)) (hL_ : Laid w) :
  Calls Tryd.prog 31 #[.string a0] w fun e w' => e = .returned (.tuple #[.agg #[.int .i64 r1, .int .i64 r2, .int .i64 r3, .int .i64 r4, .int .i64 r5, .int .i64 r6, .int .i64 r7], .int .i64 r8]) ∧ Below w.heap.size w w' := by
 have HL_ := Aside0.mk hL_
 clear hL_
 have hu23 := Tryd.underlying23
 have HB := Aside0.mk (Below.refl w.heap.size w)
 have H : (if (wrap64 ((a0.size : Int) - 9)) = 1 then (moment_ReadDay.j0 k a0 (wrap64 ((a0.size : Int) - 9)) false) else (moment_ReadDay.j0 k a0 (wrap64 ((a0.size : Int) - 9)) ((wrap64 ((a0.size : Int) - 9)) != 2))) = some (r1, r2, r3, r4, r5, r6, r7, r8) := h
 clear h
 have HC2 := Aside0.mk H
 clear H
 go_enter Tryd.func31, Tryd.ntmps31
 go_upto_region 2 with (first | ((with_reducible refine gate_dst (N := 2) rfl ?_); refine box_event ?hg (N := 2) ?hd (cs := #[.int .i64 0, .int .i64 0, .int .i64 0, .int .i64 0, .int .i64 0, .int .i64 0, .int .i64 0]) (t := 23) ?hr ?_; (case hd => rfl); (case hg => rfl); (case hr => first | (go_simp; done) | (go_simp; rfl)); intro gb314 hg w3 hbox hb; have n0_ := Aside0.mk (below_step (by repeat (first | (with_reducible first | exact HB.out | apply below_alloc | apply pw_below_drewN | apply below_drew1 | refine below_set ?_ GW333.out) | exact HB.out)) hb); have n1_ := Aside0.mk (hbox); have n2_ := Aside0.mk ((by rw [hg]; exact (below_size (by repeat (first | (with_reducible first | exact HB.out | apply below_alloc | apply pw_below_drewN | apply below_drew1 | refine below_set ?_ GW333.out) | exact HB.out))) : w.heap.size ≤ gb314)); have n3_ := Aside0.mk ((by rw [hg]; exact (below_size (by repeat (first | (with_reducible first | exact HB.out | apply below_alloc | apply pw_below_drewN | apply below_drew1 | refine below_set ?_ GW333.out) | exact HB.out))) : w.heap.size ≤ gb314)); clear HB; have HB := n0_; have BK314 := n1_; have GW314 := n2_; have GE314 := n3_; clear n0_ n1_ n2_ n3_; clear hb hbox hg))
 (try simp only [Act.put, s1_, s2_, s3_])
 go_cut [17] (fun v17 wc => ∃ (kq : Nat) (x17_1 : Bool), v17 = .bool x17_1 ∧ Aside0 (moment_ReadDay.j0 kq a0 (wrap64 ((a0.size : Int) - 9)) x17_1 = some (r1, r2, r3, r4, r5, r6, r7, r8)) ∧ Aside0 (kq ≤ k) ∧ Aside0 (wc.heap[gb314]? = some (.cells #[.int .i64 0, .int .i64 0, .int .i64 0, .int .i64 0, .int .i64 0, .int .i64 0, .int .i64 0] 23 (0, 0))) ∧ Aside0 (Below w.heap.size w wc))
 case first =>
  have H := HC2.out
  clear HC2
  by_cases c4 : (wrap64 ((a0.size : Int) - 9)) = 1
  ·rw [if_pos c4] at H
   have c4b0 : ((wrap64 ((a0.size : Int) - 9)) == 1) = true := beq_iff_eq.mpr c4
   have c4b1 : ((wrap64 ((a0.size : Int) - 9)) != 1) = false := bne_eq_false_iff_eq.mpr c4
   clear c4
   (first | rw [c4b0] | (simp only [i64_w, i32_w]; rw [c4b0]) | skip)
   have H' := Aside0.mk H
   clear H
   go_wp2
   go_meet
   case rel => exact ⟨_, (false), (by first | rfl | (simp; done) | (simp [*]; done)), H', ⟨by first | omega | exact Nat.le_refl _⟩, ⟨by (with_reducible repeat (first | refine blk_drewN ?_ _ | refine blk_drew ?_ | refine blk_alloc ?_ _)); exact BK314.out⟩, ⟨by repeat (first | (with_reducible first | exact HB.out | apply below_alloc | apply pw_below_drewN | apply below_drew1 | refine below_set ?_ GE314.out) | exact HB.out)⟩⟩
  ·rw [if_neg c4] at H
   have c4b0 : ((wrap64 ((a0.size : Int) - 9)) == 1) = false := beq_eq_false_iff_ne.mpr c4
   have c4b1 : ((wrap64 ((a0.size : Int) - 9)) != 1) = true := bne_iff_ne.mpr c4
   (first | rw [c4b0] | (simp only [i64_w, i32_w]; rw [c4b0]) | skip)
   have H' := Aside0.mk H
   clear H
   go_wp2
   go_meet
   case rel => exact ⟨_, (((wrap64 ((a0.size : Int) - 9)) != 2)), (by first | rfl | (simp; done) | (simp [*]; done)), H', ⟨by first | omega | exact Nat.le_refl _⟩, ⟨by (with_reducible repeat (first | refine blk_drewN ?_ _ | refine blk_drew ?_ | refine blk_alloc ?_ _)); exact BK314.out⟩, ⟨by repeat (first | (with_reducible first | exact HB.out | apply below_alloc | apply pw_below_drewN | apply below_drew1 | refine below_set ?_ GE314.out) | exact HB.out)⟩⟩
 case rest =>
  clear HC2
  try clear p2
  try clear c3
  try clear c4
  try clear c4b0
  try clear c4b1
  obtain ⟨kq, x17_1, rfl, HA, HJ1, BK314, HB⟩ := hcut
  cases kq with
  | zero => exact absurd HA.out (by simp [moment_ReadDay.j0])
  | succ kj1 =>
   have H := HA.out
   clear HA
   simp only [moment_ReadDay.j0] at H
   by_cases c5 : x17_1 = true
   ·subst c5
    have H1 : ((moment_read.f 0 0 0 0 0 0 0 false).bind fun bt315 => (some (bt315.1, bt315.2.1, bt315.2.2.1, bt315.2.2.2.1, bt315.2.2.2.2.1, bt315.2.2.2.2.2.1, bt315.2.2.2.2.2.2.1, bt315.2.2.2.2.2.2.2))) = some (r1, r2, r3, r4, r5, r6, r7, r8) := by rw [if_pos rfl] at H; exact H
    clear H
    have H := H1
    clear H1
    replace H := Option.bind_eq_some_iff.mp H
    obtain ⟨⟨t315, t316, t317, t318, t319, t320, t321, t322⟩, A60, H⟩ := H
    replace H : (some (t315, t316, t317, t318, t319, t320, t321, t322)) = some (r1, r2, r3, r4, r5, r6, r7, r8) := H
    have A6 := Aside0.mk A60
    clear A60
    simp only [Option.some.injEq, Prod.mk.injEq] at H
    obtain ⟨rfl, rfl, rfl, rfl, rfl, rfl, rfl, rfl⟩ := H
    go_wp2_with (first | ((with_reducible refine gate_callee (f := 60) rfl ?_); refine goesL_ (some 19) rfl rfl Tryd.func60 (by kernel_rfl) rfl #[.agg #[.int .i64 0, .int .i64 0, .int .i64 0, .int .i64 0, .int .i64 0, .int .i64 0, .int .i64 0], .bool false] rfl (by (try simp only [List.map_toArray, List.map_cons, List.map_nil]); first | done | rfl | (simp only [List.length_drop, List.length_take]; rfl)) ?_; (with_reducible refine (moment_read.calls 0 0 0 0 0 0 0 false t315 t316 t317 t318 t319 t320 t321 t322 _ A6.out (by first | exact laid_below HL_.out (by repeat (first | (with_reducible first | exact HB.out | apply below_alloc | apply pw_below_drewN | apply below_drew1 | refine below_set ?_ GW333.out) | exact HB.out)) | exact laid_drawn HL_.out (by repeat (first | exact Drawn0.refl _ | apply Drawn0.step)))).mono ?_); rintro e w7 ⟨rfl, hb⟩; refine ⟨_, rfl, ?_⟩; have n0_ := Aside0.mk (blk_below (g := gb314) (o := .cells #[.int .i64 0, .int .i64 0, .int .i64 0, .int .i64 0, .int .i64 0, .int .i64 0, .int .i64 0] 23 (0, 0)) (by (with_reducible repeat (first | refine blk_drewN ?_ _ | refine blk_drew ?_ | refine blk_alloc ?_ _)); exact BK314.out) hb); have n1_ := Aside0.mk (below_step (by repeat (first | (with_reducible first | exact HB.out | apply below_alloc | apply pw_below_drewN | apply below_drew1 | refine below_set ?_ GE314.out) | exact HB.out)) hb); clear BK314; clear HB; have BK314 := n0_; have HB := n1_; clear n0_ n1_; (try clear hb); (try clear hb2); (try clear hk); (try clear hi); have hcz8_0 : w7.cell? ⟨gb314, 0, none⟩ = some (.int .i64 0) := (blk_cell BK314.out 0).trans rfl; have hcz8_1 : w7.cell? ⟨gb314, 1, none⟩ = some (.int .i64 0) := (blk_cell BK314.out 1).trans rfl; have hcz8_2 : w7.cell? ⟨gb314, 2, none⟩ = some (.int .i64 0) := (blk_cell BK314.out 2).trans rfl; have hcz8_3 : w7.cell? ⟨gb314, 3, none⟩ = some (.int .i64 0) := (blk_cell BK314.out 3).trans rfl; have hcz8_4 : w7.cell? ⟨gb314, 4, none⟩ = some (.int .i64 0) := (blk_cell BK314.out 4).trans rfl; have hcz8_5 : w7.cell? ⟨gb314, 5, none⟩ = some (.int .i64 0) := (blk_cell BK314.out 5).trans rfl; have hcz8_6 : w7.cell? ⟨gb314, 6, none⟩ = some (.int .i64 0) := (blk_cell BK314.out 6).trans rfl; have hfz8_0 := blk_frozen BK314.out 0; have hfz8_1 := blk_frozen BK314.out 1; have hfz8_2 := blk_frozen BK314.out 2; have hfz8_3 := blk_frozen BK314.out 3; have hfz8_4 := blk_frozen BK314.out 4; have hfz8_5 := blk_frozen BK314.out 5; have hfz8_6 := blk_frozen BK314.out 6))
    refine bodyPost_ret (results_ct rfl _ _ gb314 23 #[.int .i64 t315, .int .i64 t316, .int .i64 t317, .int .i64 t318, .int .i64 t319, .int .i64 t320, .int .i64 t321] (0, 0) _ rfl (by (with_reducible repeat (first | refine blk_drewN ?_ _ | refine blk_drew ?_ | refine blk_alloc ?_ _)); refine blk_put (cs := #[.int .i64 t315, .int .i64 t316, .int .i64 t317, .int .i64 t318, .int .i64 t319, .int .i64 t320, .int .i64 0]) ?_ 6 _ rfl; (with_reducible repeat (first | refine blk_drewN ?_ _ | refine blk_drew ?_ | refine blk_alloc ?_ _)); refine blk_put (cs := #[.int .i64 t315, .int .i64 t316, .int .i64 t317, .int .i64 t318, .int .i64 t319, .int .i64 0, .int .i64 0]) ?_ 5 _ rfl; (with_reducible repeat (first | refine blk_drewN ?_ _ | refine blk_drew ?_ | refine blk_alloc ?_ _)); refine blk_put (cs := #[.int .i64 t315, .int .i64 t316, .int .i64 t317, .int .i64 t318, .int .i64 0, .int .i64 0, .int .i64 0]) ?_ 4 _ rfl; (with_reducible repeat (first | refine blk_drewN ?_ _ | refine blk_drew ?_ | refine blk_alloc ?_ _)); refine blk_put (cs := #[.int .i64 t315, .int .i64 t316, .int .i64 t317, .int .i64 0, .int .i64 0, .int .i64 0, .int .i64 0]) ?_ 3 _ rfl; (with_reducible repeat (first | refine blk_drewN ?_ _ | refine blk_drew ?_ | refine blk_alloc ?_ _)); refine blk_put (cs := #[.int .i64 t315, .int .i64 t316, .int .i64 0, .int .i64 0, .int .i64 0, .int .i64 0, .int .i64 0]) ?_ 2 _ rfl; (with_reducible repeat (first | refine blk_drewN ?_ _ | refine blk_drew ?_ | refine blk_alloc ?_ _)); refine blk_put (cs := #[.int .i64 t315, .int .i64 0, .int .i64 0, .int .i64 0, .int .i64 0, .int .i64 0, .int .i64 0]) ?_ 1 _ rfl; (with_reducible repeat (first | refine blk_drewN ?_ _ | refine blk_drew ?_ | refine blk_alloc ?_ _)); refine blk_put (cs := #[.int .i64 0, .int .i64 0, .int .i64 0, .int .i64 0, .int .i64 0, .int .i64 0, .int .i64 0]) ?_ 0 _ rfl; (with_reducible repeat (first | refine blk_drewN ?_ _ | refine blk_drew ?_ | refine blk_alloc ?_ _)); exact BK314.out) Tryd.underlying23 rfl (by kernel_rfl)) rfl ?_
    exact ⟨by first | rfl | (simp [errW_none, errW_some] <;> rfl) | (simp [*, errW_none, errW_some] <;> rfl), by repeat (first | (with_reducible first | exact HB.out | apply below_alloc | apply pw_below_drewN | apply below_drew1 | refine below_set ?_ GE314.out) | exact HB.out)⟩
   ·replace c5 := Bool.eq_false_iff.mpr c5
    subst c5
    have H1 : (if 0 ≤ (wrap64 ((a0.size : Int) - 9)) then (if (wrap64 ((a0.size : Int) - 9)) ≤ (a0.size : Int) then ((moment_digits.f kj1 (a0.extract 0 ((wrap64 ((a0.size : Int) - 9)) : Int).toNat)).bind fun bt323 => ((moment_day.f bt323.1 (a0.extract ((wrap64 ((a0.size : Int) - 9)) : Int).toNat a0.size)).bind fun bt325 => (if bt323.2 = true then ((moment_read.f bt325.1 bt325.2.1 bt325.2.2.1 bt325.2.2.2.1 bt325.2.2.2.2.1 bt325.2.2.2.2.2.1 bt325.2.2.2.2.2.2.1 bt325.2.2.2.2.2.2.2).bind fun bt334 => (some (bt334.1, bt334.2.1, bt334.2.2.1, bt334.2.2.2.1, bt334.2.2.2.2.1, bt334.2.2.2.2.2.1, bt334.2.2.2.2.2.2.1, bt334.2.2.2.2.2.2.2))) else ((moment_read.f bt325.1 bt325.2.1 bt325.2.2.1 bt325.2.2.2.1 bt325.2.2.2.2.1 bt325.2.2.2.2.2.1 bt325.2.2.2.2.2.2.1 false).bind fun bt342 => (some (bt342.1, bt342.2.1, bt342.2.2.1, bt342.2.2.2.1, bt342.2.2.2.2.1, bt342.2.2.2.2.2.1, bt342.2.2.2.2.2.2.1, bt342.2.2.2.2.2.2.2)))))) else (none)) else (none)) = some (r1, r2, r3, r4, r5, r6, r7, r8) := by rw [if_neg (show ¬ (false = true) by decide)] at H; exact H
    clear H
    have H := H1
    clear H1
    obtain ⟨ji9, hji9⟩ : ∃ j_ : Int, (wrap64 ((a0.size : Int) - 9)) = j_ := ⟨_, rfl⟩
    replace H : (if 0 ≤ (ji9) then (if (ji9) ≤ (a0.size : Int) then ((moment_digits.f kj1 (a0.extract 0 ((ji9) : Int).toNat)).bind fun bt323 => ((moment_day.f bt323.1 (a0.extract ((ji9) : Int).toNat a0.size)).bind fun bt325 => (if bt323.2 = true then ((moment_read.f bt325.1 bt325.2.1 bt325.2.2.1 bt325.2.2.2.1 bt325.2.2.2.2.1 bt325.2.2.2.2.2.1 bt325.2.2.2.2.2.2.1 bt325.2.2.2.2.2.2.2).bind fun bt334 => (some (bt334.1, bt334.2.1, bt334.2.2.1, bt334.2.2.2.1, bt334.2.2.2.2.1, bt334.2.2.2.2.2.1, bt334.2.2.2.2.2.2.1, bt334.2.2.2.2.2.2.2))) else ((moment_read.f bt325.1 bt325.2.1 bt325.2.2.1 bt325.2.2.2.1 bt325.2.2.2.2.1 bt325.2.2.2.2.2.1 bt325.2.2.2.2.2.2.1 false).bind fun bt342 => (some (bt342.1, bt342.2.1, bt342.2.2.1, bt342.2.2.2.1, bt342.2.2.2.2.1, bt342.2.2.2.2.2.1, bt342.2.2.2.2.2.2.1, bt342.2.2.2.2.2.2.2)))))) else (none)) else (none)) = some (r1, r2, r3, r4, r5, r6, r7, r8) := by first | (rw [hji9] at H; exact H) | (simp only [hji9] at H ⊢; exact H)
    have hji9w : (IntKind.i64.wrap ((a0.size : Int) - 9)) = ji9 := (i64_w _).trans hji9
    by_cases c10 : 0 ≤ (ji9)
    ·rw [if_pos c10] at H
     have c10b0 := eq_true c10
     have c10b1 : decide (0 ≤ (ji9)) = true := decide_eq_true c10
     clear c10
     by_cases c11 : (ji9) ≤ (a0.size : Int)
     ·rw [if_pos c11] at H
      have c11b0 := eq_true c11
      have c11b1 : decide ((ji9) ≤ (a0.size : Int)) = true := decide_eq_true c11
      clear c11
      replace H := Option.bind_eq_some_iff.mp H
      obtain ⟨⟨t323, t324⟩, A120, H⟩ := H
      replace H : ((moment_day.f t323 (a0.extract ((ji9) : Int).toNat a0.size)).bind fun bt325 => (if t324 = true then ((moment_read.f bt325.1 bt325.2.1 bt325.2.2.1 bt325.2.2.2.1 bt325.2.2.2.2.1 bt325.2.2.2.2.2.1 bt325.2.2.2.2.2.2.1 bt325.2.2.2.2.2.2.2).bind fun bt334 => (some (bt334.1, bt334.2.1, bt334.2.2.1, bt334.2.2.2.1, bt334.2.2.2.2.1, bt334.2.2.2.2.2.1, bt334.2.2.2.2.2.2.1, bt334.2.2.2.2.2.2.2))) else ((moment_read.f bt325.1 bt325.2.1 bt325.2.2.1 bt325.2.2.2.1 bt325.2.2.2.2.1 bt325.2.2.2.2.2.1 bt325.2.2.2.2.2.2.1 false).bind fun bt342 => (some (bt342.1, bt342.2.1, bt342.2.2.1, bt342.2.2.2.1, bt342.2.2.2.2.1, bt342.2.2.2.2.2.1, bt342.2.2.2.2.2.2.1, bt342.2.2.2.2.2.2.2))))) = some (r1, r2, r3, r4, r5, r6, r7, r8) := H
      have A12 := Aside0.mk A120
      clear A120
      have c13b0 := eq_true (of_decide_eq_true (by first | (with_reducible assumption) | assumption) : 0 ≤ (ji9))
      have c14b0 := eq_true (of_decide_eq_true (by first | (with_reducible assumption) | assumption) : (ji9) ≤ (a0.size : Int))
      replace H := Option.bind_eq_some_iff.mp H
      obtain ⟨⟨t325, t326, t327, t328, t329, t330, t331, t332⟩, A150, H⟩ := H
      replace H : (if t324 = true then ((moment_read.f t325 t326 t327 t328 t329 t330 t331 t332).bind fun bt334 => (some (bt334.1, bt334.2.1, bt334.2.2.1, bt334.2.2.2.1, bt334.2.2.2.2.1, bt334.2.2.2.2.2.1, bt334.2.2.2.2.2.2.1, bt334.2.2.2.2.2.2.2))) else ((moment_read.f t325 t326 t327 t328 t329 t330 t331 false).bind fun bt342 => (some (bt342.1, bt342.2.1, bt342.2.2.1, bt342.2.2.2.1, bt342.2.2.2.2.1, bt342.2.2.2.2.2.1, bt342.2.2.2.2.2.2.1, bt342.2.2.2.2.2.2.2)))) = some (r1, r2, r3, r4, r5, r6, r7, r8) := H
      have A15 := Aside0.mk A150
      clear A150
      by_cases c16 : t324 = true
      ·subst c16
       have H1 : ((moment_read.f t325 t326 t327 t328 t329 t330 t331 t332).bind fun bt334 => (some (bt334.1, bt334.2.1, bt334.2.2.1, bt334.2.2.2.1, bt334.2.2.2.2.1, bt334.2.2.2.2.2.1, bt334.2.2.2.2.2.2.1, bt334.2.2.2.2.2.2.2))) = some (r1, r2, r3, r4, r5, r6, r7, r8) := by rw [if_pos rfl] at H; exact H
       clear H
       have H := H1
       clear H1
       replace H := Option.bind_eq_some_iff.mp H
       obtain ⟨⟨t334, t335, t336, t337, t338, t339, t340, t341⟩, A170, H⟩ := H
       replace H : (some (t334, t335, t336, t337, t338, t339, t340, t341)) = some (r1, r2, r3, r4, r5, r6, r7, r8) := H
       have A17 := Aside0.mk A170
       clear A170
       simp only [Option.some.injEq, Prod.mk.injEq] at H
       obtain ⟨rfl, rfl, rfl, rfl, rfl, rfl, rfl, rfl⟩ := H
       go_wp2_with (first | ((with_reducible refine gate_callee (f := 68) rfl ?_); refine goesL_ (some 26) rfl rfl Tryd.func68 (by kernel_rfl) rfl #[.string (a0.extract 0 ((ji9) : Int).toNat)] rfl (by (try simp only [List.map_toArray, List.map_cons, List.map_nil]); first | done | (simp only [hji9]; rfl) | rfl | (simp only [List.length_drop, List.length_take]; rfl)) ?_; (with_reducible refine (moment_digits.calls kj1 (a0.extract 0 ((ji9) : Int).toNat) t323 true _ A12.out).mono ?_); rintro e w' ⟨rfl, ⟨nd, rfl⟩⟩; refine ⟨_, rfl, ?_⟩; (try (rw [drewN_self wc]; generalize hq_ : World.drewN wc _ = wc; have n0_ : Aside0 (wc.heap[gb314]? = some (.cells #[.int .i64 0, .int .i64 0, .int .i64 0, .int .i64 0, .int .i64 0, .int .i64 0, .int .i64 0] 23 (0, 0))) := ⟨by rw [← hq_]; exact (by (with_reducible repeat (first | refine blk_drewN ?_ _ | refine blk_drew ?_ | refine blk_alloc ?_ _)); exact BK314.out)⟩; have n1_ : Aside0 (Below w.heap.size w wc) := ⟨by rw [← hq_]; exact (by repeat (first | (with_reducible first | exact HB.out | apply below_alloc | apply pw_below_drewN | apply below_drew1 | refine below_set ?_ GE314.out) | exact HB.out))⟩; clear BK314 HB hq_; have BK314 := n0_; have HB := n1_; clear n0_ n1_))) | ((with_reducible refine gate_callee (f := 69) rfl ?_); refine goesL_ (some 34) rfl rfl Tryd.func69 (by kernel_rfl) rfl #[.int .i64 t323, .string (a0.extract ((ji9) : Int).toNat a0.size)] rfl (by (try simp only [List.map_toArray, List.map_cons, List.map_nil]); first | done | (simp only [hji9]; rfl) | rfl | (simp only [List.length_drop, List.length_take]; rfl)) ?_; (with_reducible refine (moment_day.calls t323 (a0.extract ((ji9) : Int).toNat a0.size) t325 t326 t327 t328 t329 t330 t331 t332 _ A15.out).mono ?_); rintro e w18 ⟨rfl, hb⟩; refine ⟨_, rfl, ?_⟩; have n0_ := Aside0.mk (blk_below (g := gb314) (o := .cells #[.int .i64 0, .int .i64 0, .int .i64 0, .int .i64 0, .int .i64 0, .int .i64 0, .int .i64 0] 23 (0, 0)) (by (with_reducible repeat (first | refine blk_drewN ?_ _ | refine blk_drew ?_ | refine blk_alloc ?_ _)); exact BK314.out) hb); have n1_ := Aside0.mk (below_step (by repeat (first | (with_reducible first | exact HB.out | apply below_alloc | apply pw_below_drewN | apply below_drew1 | refine below_set ?_ GE314.out) | exact HB.out)) hb); clear BK314; clear HB; have BK314 := n0_; have HB := n1_; clear n0_ n1_; (try clear hb); (try clear hb2); (try clear hk); (try clear hi)) | ((with_reducible refine gate_dst (N := 7) rfl ?_); refine box_event ?hg (N := 7) ?hd (cs := #[.int .i64 0, .int .i64 0, .int .i64 0, .int .i64 0, .int .i64 0, .int .i64 0, .int .i64 0]) (t := 23) ?hr ?_; (case hd => rfl); (case hg => rfl); (case hr => first | (go_simp; done) | (go_simp; rfl)); intro gb333 hg w19 hbox hb; have n0_ := Aside0.mk (blk_below (g := gb314) (o := .cells #[.int .i64 0, .int .i64 0, .int .i64 0, .int .i64 0, .int .i64 0, .int .i64 0, .int .i64 0] 23 (0, 0)) (by (with_reducible repeat (first | refine blk_drewN ?_ _ | refine blk_drew ?_ | refine blk_alloc ?_ _)); exact BK314.out) hb); have n1_ := Aside0.mk (below_step (by repeat (first | (with_reducible first | exact HB.out | apply below_alloc | apply pw_below_drewN | apply below_drew1 | refine below_set ?_ GE314.out) | exact HB.out)) hb); have n2_ := Aside0.mk (hbox); have n3_ := Aside0.mk ((by rw [hg]; exact (below_size (by repeat (first | (with_reducible first | exact HB.out | apply below_alloc | apply pw_below_drewN | apply below_drew1 | refine below_set ?_ GE314.out) | exact HB.out))) : w.heap.size ≤ gb333)); have n4_ := Aside0.mk ((by rw [hg]; exact (below_size (by repeat (first | (with_reducible first | exact HB.out | apply below_alloc | apply pw_below_drewN | apply below_drew1 | refine below_set ?_ GE314.out) | exact HB.out))) : w.heap.size ≤ gb333)); have n5_ := Aside0.mk ((by rw [hg]; exact Nat.ne_of_lt (blk_lt (g := gb314) (o := .cells #[.int .i64 0, .int .i64 0, .int .i64 0, .int .i64 0, .int .i64 0, .int .i64 0, .int .i64 0] 23 (0, 0)) (by (with_reducible repeat (first | refine blk_drewN ?_ _ | refine blk_drew ?_ | refine blk_alloc ?_ _)); exact BK314.out)) : gb314 ≠ gb333)); have n6_ := Aside0.mk ((by rw [hg]; exact Nat.ne_of_gt (blk_lt (g := gb314) (o := .cells #[.int .i64 0, .int .i64 0, .int .i64 0, .int .i64 0, .int .i64 0, .int .i64 0, .int .i64 0] 23 (0, 0)) (by (with_reducible repeat (first | refine blk_drewN ?_ _ | refine blk_drew ?_ | refine blk_alloc ?_ _)); exact BK314.out)) : gb333 ≠ gb314)); clear BK314; clear HB; have BK314 := n0_; have HB := n1_; have BK333 := n2_; have GW333 := n3_; have GE333 := n4_; have NB314_333 := n5_; have NB333_314 := n6_; clear n0_ n1_ n2_ n3_ n4_ n5_ n6_; clear hb hbox hg; have hnb20 := NB333_314.out; have hnc20 := NB314_333.out; have hcz21_0 : w19.cell? ⟨gb333, 0, none⟩ = some (.int .i64 0) := (blk_cell BK333.out 0).trans rfl; have hcz21_1 : w19.cell? ⟨gb333, 1, none⟩ = some (.int .i64 0) := (blk_cell BK333.out 1).trans rfl; have hcz21_2 : w19.cell? ⟨gb333, 2, none⟩ = some (.int .i64 0) := (blk_cell BK333.out 2).trans rfl; have hcz21_3 : w19.cell? ⟨gb333, 3, none⟩ = some (.int .i64 0) := (blk_cell BK333.out 3).trans rfl; have hcz21_4 : w19.cell? ⟨gb333, 4, none⟩ = some (.int .i64 0) := (blk_cell BK333.out 4).trans rfl; have hcz21_5 : w19.cell? ⟨gb333, 5, none⟩ = some (.int .i64 0) := (blk_cell BK333.out 5).trans rfl; have hcz21_6 : w19.cell? ⟨gb333, 6, none⟩ = some (.int .i64 0) := (blk_cell BK333.out 6).trans rfl; have hfz21_0 := blk_frozen BK333.out 0; have hfz21_1 := blk_frozen BK333.out 1; have hfz21_2 := blk_frozen BK333.out 2; have hfz21_3 := blk_frozen BK333.out 3; have hfz21_4 := blk_frozen BK333.out 4; have hfz21_5 := blk_frozen BK333.out 5; have hfz21_6 := blk_frozen BK333.out 6) | ((with_reducible refine gate_callee (f := 60) rfl ?_); refine goesL_ (some 42) rfl rfl Tryd.func60 (by kernel_rfl) rfl #[.agg #[.int .i64 t325, .int .i64 t326, .int .i64 t327, .int .i64 t328, .int .i64 t329, .int .i64 t330, .int .i64 t331], .bool t332] rfl (by (try simp only [List.map_toArray, List.map_cons, List.map_nil]); first | done | rfl | (simp only [List.length_drop, List.length_take]; rfl)) ?_; (with_reducible refine (moment_read.calls t325 t326 t327 t328 t329 t330 t331 t332 t334 t335 t336 t337 t338 t339 t340 t341 _ A17.out (by first | exact laid_below HL_.out (by repeat (first | (with_reducible first | exact HB.out | apply below_alloc | apply pw_below_drewN | apply below_drew1 | refine below_set ?_ GW333.out) | exact HB.out)) | exact laid_drawn HL_.out (by repeat (first | exact Drawn0.refl _ | apply Drawn0.step)))).mono ?_); rintro e w22 ⟨rfl, hb⟩; refine ⟨_, rfl, ?_⟩; have n0_ := Aside0.mk (blk_below (g := gb314) (o := .cells #[.int .i64 0, .int .i64 0, .int .i64 0, .int .i64 0, .int .i64 0, .int .i64 0, .int .i64 0] 23 (0, 0)) (by (with_reducible repeat (first | refine blk_drewN ?_ _ | refine blk_drew ?_ | refine blk_alloc ?_ _)); refine blk_far ?_ NB314_333.out _; (with_reducible repeat (first | refine blk_drewN ?_ _ | refine blk_drew ?_ | refine blk_alloc ?_ _)); refine blk_far ?_ NB314_333.out _; (with_reducible repeat (first | refine blk_drewN ?_ _ | refine blk_drew ?_ | refine blk_alloc ?_ _)); refine blk_far ?_ NB314_333.out _; (with_reducible repeat (first | refine blk_drewN ?_ _ | refine blk_drew ?_ | refine blk_alloc ?_ _)); refine blk_far ?_ NB314_333.out _; (with_reducible repeat (first | refine blk_drewN ?_ _ | refine blk_drew ?_ | refine blk_alloc ?_ _)); refine blk_far ?_ NB314_333.out _; (with_reducible repeat (first | refine blk_drewN ?_ _ | refine blk_drew ?_ | refine blk_alloc ?_ _)); refine blk_far ?_ NB314_333.out _; (with_reducible repeat (first | refine blk_drewN ?_ _ | refine blk_drew ?_ | refine blk_alloc ?_ _)); refine blk_far ?_ NB314_333.out _; (with_reducible repeat (first | refine blk_drewN ?_ _ | refine blk_drew ?_ | refine blk_alloc ?_ _)); exact BK314.out) hb); have n1_ := Aside0.mk (blk_below (g := gb333) (o := .cells #[.int .i64 t325, .int .i64 t326, .int .i64 t327, .int .i64 t328, .int .i64 t329, .int .i64 t330, .int .i64 t331] 23 (0, 0)) (by (with_reducible repeat (first | refine blk_drewN ?_ _ | refine blk_drew ?_ | refine blk_alloc ?_ _)); refine blk_put (cs := #[.int .i64 t325, .int .i64 t326, .int .i64 t327, .int .i64 t328, .int .i64 t329, .int .i64 t330, .int .i64 0]) ?_ 6 _ rfl; (with_reducible repeat (first | refine blk_drewN ?_ _ | refine blk_drew ?_ | refine blk_alloc ?_ _)); refine blk_put (cs := #[.int .i64 t325, .int .i64 t326, .int .i64 t327, .int .i64 t328, .int .i64 t329, .int .i64 0, .int .i64 0]) ?_ 5 _ rfl; (with_reducible repeat (first | refine blk_drewN ?_ _ | refine blk_drew ?_ | refine blk_alloc ?_ _)); refine blk_put (cs := #[.int .i64 t325, .int .i64 t326, .int .i64 t327, .int .i64 t328, .int .i64 0, .int .i64 0, .int .i64 0]) ?_ 4 _ rfl; (with_reducible repeat (first | refine blk_drewN ?_ _ | refine blk_drew ?_ | refine blk_alloc ?_ _)); refine blk_put (cs := #[.int .i64 t325, .int .i64 t326, .int .i64 t327, .int .i64 0, .int .i64 0, .int .i64 0, .int .i64 0]) ?_ 3 _ rfl; (with_reducible repeat (first | refine blk_drewN ?_ _ | refine blk_drew ?_ | refine blk_alloc ?_ _)); refine blk_put (cs := #[.int .i64 t325, .int .i64 t326, .int .i64 0, .int .i64 0, .int .i64 0, .int .i64 0, .int .i64 0]) ?_ 2 _ rfl; (with_reducible repeat (first | refine blk_drewN ?_ _ | refine blk_drew ?_ | refine blk_alloc ?_ _)); refine blk_put (cs := #[.int .i64 t325, .int .i64 0, .int .i64 0, .int .i64 0, .int .i64 0, .int .i64 0, .int .i64 0]) ?_ 1 _ rfl; (with_reducible repeat (first | refine blk_drewN ?_ _ | refine blk_drew ?_ | refine blk_alloc ?_ _)); refine blk_put (cs := #[.int .i64 0, .int .i64 0, .int .i64 0, .int .i64 0, .int .i64 0, .int .i64 0, .int .i64 0]) ?_ 0 _ rfl; (with_reducible repeat (first | refine blk_drewN ?_ _ | refine blk_drew ?_ | refine blk_alloc ?_ _)); exact BK333.out) hb); have n2_ := Aside0.mk (below_step (by repeat (first | (with_reducible first | exact HB.out | apply below_alloc | apply pw_below_drewN | apply below_drew1 | refine below_set ?_ GE314.out | refine below_set ?_ GE333.out) | exact HB.out)) hb); clear BK314; clear BK333; clear HB; have BK314 := n0_; have BK333 := n1_; have HB := n2_; clear n0_ n1_ n2_; (try clear hb); (try clear hb2); (try clear hk); (try clear hi); have hcz23_0 : w22.cell? ⟨gb314, 0, none⟩ = some (.int .i64 0) := (blk_cell BK314.out 0).trans rfl; have hcz23_1 : w22.cell? ⟨gb314, 1, none⟩ = some (.int .i64 0) := (blk_cell BK314.out 1).trans rfl; have hcz23_2 : w22.cell? ⟨gb314, 2, none⟩ = some (.int .i64 0) := (blk_cell BK314.out 2).trans rfl; have hcz23_3 : w22.cell? ⟨gb314, 3, none⟩ = some (.int .i64 0) := (blk_cell BK314.out 3).trans rfl; have hcz23_4 : w22.cell? ⟨gb314, 4, none⟩ = some (.int .i64 0) := (blk_cell BK314.out 4).trans rfl; have hcz23_5 : w22.cell? ⟨gb314, 5, none⟩ = some (.int .i64 0) := (blk_cell BK314.out 5).trans rfl; have hcz23_6 : w22.cell? ⟨gb314, 6, none⟩ = some (.int .i64 0) := (blk_cell BK314.out 6).trans rfl; have hfz23_0 := blk_frozen BK314.out 0; have hfz23_1 := blk_frozen BK314.out 1; have hfz23_2 := blk_frozen BK314.out 2; have hfz23_3 := blk_frozen BK314.out 3; have hfz23_4 := blk_frozen BK314.out 4; have hfz23_5 := blk_frozen BK314.out 5; have hfz23_6 := blk_frozen BK314.out 6))
       refine bodyPost_ret (results_ct rfl _ _ gb314 23 #[.int .i64 t334, .int .i64 t335, .int .i64 t336, .int .i64 t337, .int .i64 t338, .int .i64 t339, .int .i64 t340] (0, 0) _ rfl (by (with_reducible repeat (first | refine blk_drewN ?_ _ | refine blk_drew ?_ | refine blk_alloc ?_ _)); refine blk_put (cs := #[.int .i64 t334, .int .i64 t335, .int .i64 t336, .int .i64 t337, .int .i64 t338, .int .i64 t339, .int .i64 0]) ?_ 6 _ rfl; (with_reducible repeat (first | refine blk_drewN ?_ _ | refine blk_drew ?_ | refine blk_alloc ?_ _)); refine blk_put (cs := #[.int .i64 t334, .int .i64 t335, .int .i64 t336, .int .i64 t337, .int .i64 t338, .int .i64 0, .int .i64 0]) ?_ 5 _ rfl; (with_reducible repeat (first | refine blk_drewN ?_ _ | refine blk_drew ?_ | refine blk_alloc ?_ _)); refine blk_put (cs := #[.int .i64 t334, .int .i64 t335, .int .i64 t336, .int .i64 t337, .int .i64 0, .int .i64 0, .int .i64 0]) ?_ 4 _ rfl; (with_reducible repeat (first | refine blk_drewN ?_ _ | refine blk_drew ?_ | refine blk_alloc ?_ _)); refine blk_put (cs := #[.int .i64 t334, .int .i64 t335, .int .i64 t336, .int .i64 0, .int .i64 0, .int .i64 0, .int .i64 0]) ?_ 3 _ rfl; (with_reducible repeat (first | refine blk_drewN ?_ _ | refine blk_drew ?_ | refine blk_alloc ?_ _)); refine blk_put (cs := #[.int .i64 t334, .int .i64 t335, .int .i64 0, .int .i64 0, .int .i64 0, .int .i64 0, .int .i64 0]) ?_ 2 _ rfl; (with_reducible repeat (first | refine blk_drewN ?_ _ | refine blk_drew ?_ | refine blk_alloc ?_ _)); refine blk_put (cs := #[.int .i64 t334, .int .i64 0, .int .i64 0, .int .i64 0, .int .i64 0, .int .i64 0, .int .i64 0]) ?_ 1 _ rfl; (with_reducible repeat (first | refine blk_drewN ?_ _ | refine blk_drew ?_ | refine blk_alloc ?_ _)); refine blk_put (cs := #[.int .i64 0, .int .i64 0, .int .i64 0, .int .i64 0, .int .i64 0, .int .i64 0, .int .i64 0]) ?_ 0 _ rfl; (with_reducible repeat (first | refine blk_drewN ?_ _ | refine blk_drew ?_ | refine blk_alloc ?_ _)); exact BK314.out) Tryd.underlying23 rfl (by kernel_rfl)) rfl ?_
       exact ⟨by first | rfl | (simp [errW_none, errW_some] <;> rfl) | (simp only [← hji9]; first | rfl | (simp [errW_none, errW_some] <;> rfl)) | (simp [*, errW_none, errW_some] <;> rfl), by repeat (first | (with_reducible first | exact HB.out | apply below_alloc | apply pw_below_drewN | apply below_drew1 | refine below_set ?_ GE314.out | refine below_set ?_ GE333.out) | exact HB.out)⟩
      ·replace c16 := Bool.eq_false_iff.mpr c16
       subst c16
       have H1 : ((moment_read.f t325 t326 t327 t328 t329 t330 t331 false).bind fun bt342 => (some (bt342.1, bt342.2.1, bt342.2.2.1, bt342.2.2.2.1, bt342.2.2.2.2.1, bt342.2.2.2.2.2.1, bt342.2.2.2.2.2.2.1, bt342.2.2.2.2.2.2.2))) = some (r1, r2, r3, r4, r5, r6, r7, r8) := by rw [if_neg (show ¬ (false = true) by decide)] at H; exact H
       clear H
       have H := H1
       clear H1
       replace H := Option.bind_eq_some_iff.mp H
       obtain ⟨⟨t342, t343, t344, t345, t346, t347, t348, t349⟩, A240, H⟩ := H
       replace H : (some (t342, t343, t344, t345, t346, t347, t348, t349)) = some (r1, r2, r3, r4, r5, r6, r7, r8) := H
       have A24 := Aside0.mk A240
       clear A240
       simp only [Option.some.injEq, Prod.mk.injEq] at H
       obtain ⟨rfl, rfl, rfl, rfl, rfl, rfl, rfl, rfl⟩ := H
       go_wp2_with (first | ((with_reducible refine gate_callee (f := 68) rfl ?_); refine goesL_ (some 26) rfl rfl Tryd.func68 (by kernel_rfl) rfl #[.string (a0.extract 0 ((ji9) : Int).toNat)] rfl (by (try simp only [List.map_toArray, List.map_cons, List.map_nil]); first | done | (simp only [hji9]; rfl) | rfl | (simp only [List.length_drop, List.length_take]; rfl)) ?_; (with_reducible refine (moment_digits.calls kj1 (a0.extract 0 ((ji9) : Int).toNat) t323 false _ A12.out).mono ?_); rintro e w' ⟨rfl, ⟨nd, rfl⟩⟩; refine ⟨_, rfl, ?_⟩; (try (rw [drewN_self wc]; generalize hq_ : World.drewN wc _ = wc; have n0_ : Aside0 (wc.heap[gb314]? = some (.cells #[.int .i64 0, .int .i64 0, .int .i64 0, .int .i64 0, .int .i64 0, .int .i64 0, .int .i64 0] 23 (0, 0))) := ⟨by rw [← hq_]; exact (by (with_reducible repeat (first | refine blk_drewN ?_ _ | refine blk_drew ?_ | refine blk_alloc ?_ _)); exact BK314.out)⟩; have n1_ : Aside0 (Below w.heap.size w wc) := ⟨by rw [← hq_]; exact (by repeat (first | (with_reducible first | exact HB.out | apply below_alloc | apply pw_below_drewN | apply below_drew1 | refine below_set ?_ GE314.out) | exact HB.out))⟩; clear BK314 HB hq_; have BK314 := n0_; have HB := n1_; clear n0_ n1_))) | ((with_reducible refine gate_callee (f := 69) rfl ?_); refine goesL_ (some 34) rfl rfl Tryd.func69 (by kernel_rfl) rfl #[.int .i64 t323, .string (a0.extract ((ji9) : Int).toNat a0.size)] rfl (by (try simp only [List.map_toArray, List.map_cons, List.map_nil]); first | done | (simp only [hji9]; rfl) | rfl | (simp only [List.length_drop, List.length_take]; rfl)) ?_; (with_reducible refine (moment_day.calls t323 (a0.extract ((ji9) : Int).toNat a0.size) t325 t326 t327 t328 t329 t330 t331 t332 _ A15.out).mono ?_); rintro e w25 ⟨rfl, hb⟩; refine ⟨_, rfl, ?_⟩; have n0_ := Aside0.mk (blk_below (g := gb314) (o := .cells #[.int .i64 0, .int .i64 0, .int .i64 0, .int .i64 0, .int .i64 0, .int .i64 0, .int .i64 0] 23 (0, 0)) (by (with_reducible repeat (first | refine blk_drewN ?_ _ | refine blk_drew ?_ | refine blk_alloc ?_ _)); exact BK314.out) hb); have n1_ := Aside0.mk (below_step (by repeat (first | (with_reducible first | exact HB.out | apply below_alloc | apply pw_below_drewN | apply below_drew1 | refine below_set ?_ GE314.out) | exact HB.out)) hb); clear BK314; clear HB; have BK314 := n0_; have HB := n1_; clear n0_ n1_; (try clear hb); (try clear hb2); (try clear hk); (try clear hi)) | ((with_reducible refine gate_dst (N := 7) rfl ?_); refine box_event ?hg (N := 7) ?hd (cs := #[.int .i64 0, .int .i64 0, .int .i64 0, .int .i64 0, .int .i64 0, .int .i64 0, .int .i64 0]) (t := 23) ?hr ?_; (case hd => rfl); (case hg => rfl); (case hr => first | (go_simp; done) | (go_simp; rfl)); intro gb333 hg w26 hbox hb; have n0_ := Aside0.mk (blk_below (g := gb314) (o := .cells #[.int .i64 0, .int .i64 0, .int .i64 0, .int .i64 0, .int .i64 0, .int .i64 0, .int .i64 0] 23 (0, 0)) (by (with_reducible repeat (first | refine blk_drewN ?_ _ | refine blk_drew ?_ | refine blk_alloc ?_ _)); exact BK314.out) hb); have n1_ := Aside0.mk (below_step (by repeat (first | (with_reducible first | exact HB.out | apply below_alloc | apply pw_below_drewN | apply below_drew1 | refine below_set ?_ GE314.out) | exact HB.out)) hb); have n2_ := Aside0.mk (hbox); have n3_ := Aside0.mk ((by rw [hg]; exact (below_size (by repeat (first | (with_reducible first | exact HB.out | apply below_alloc | apply pw_below_drewN | apply below_drew1 | refine below_set ?_ GE314.out) | exact HB.out))) : w.heap.size ≤ gb333)); have n4_ := Aside0.mk ((by rw [hg]; exact (below_size (by repeat (first | (with_reducible first | exact HB.out | apply below_alloc | apply pw_below_drewN | apply below_drew1 | refine below_set ?_ GE314.out) | exact HB.out))) : w.heap.size ≤ gb333)); have n5_ := Aside0.mk ((by rw [hg]; exact Nat.ne_of_lt (blk_lt (g := gb314) (o := .cells #[.int .i64 0, .int .i64 0, .int .i64 0, .int .i64 0, .int .i64 0, .int .i64 0, .int .i64 0] 23 (0, 0)) (by (with_reducible repeat (first | refine blk_drewN ?_ _ | refine blk_drew ?_ | refine blk_alloc ?_ _)); exact BK314.out)) : gb314 ≠ gb333)); have n6_ := Aside0.mk ((by rw [hg]; exact Nat.ne_of_gt (blk_lt (g := gb314) (o := .cells #[.int .i64 0, .int .i64 0, .int .i64 0, .int .i64 0, .int .i64 0, .int .i64 0, .int .i64 0] 23 (0, 0)) (by (with_reducible repeat (first | refine blk_drewN ?_ _ | refine blk_drew ?_ | refine blk_alloc ?_ _)); exact BK314.out)) : gb333 ≠ gb314)); clear BK314; clear HB; have BK314 := n0_; have HB := n1_; have BK333 := n2_; have GW333 := n3_; have GE333 := n4_; have NB314_333 := n5_; have NB333_314 := n6_; clear n0_ n1_ n2_ n3_ n4_ n5_ n6_; clear hb hbox hg; have hnb27 := NB333_314.out; have hnc27 := NB314_333.out; have hcz28_0 : w26.cell? ⟨gb333, 0, none⟩ = some (.int .i64 0) := (blk_cell BK333.out 0).trans rfl; have hcz28_1 : w26.cell? ⟨gb333, 1, none⟩ = some (.int .i64 0) := (blk_cell BK333.out 1).trans rfl; have hcz28_2 : w26.cell? ⟨gb333, 2, none⟩ = some (.int .i64 0) := (blk_cell BK333.out 2).trans rfl; have hcz28_3 : w26.cell? ⟨gb333, 3, none⟩ = some (.int .i64 0) := (blk_cell BK333.out 3).trans rfl; have hcz28_4 : w26.cell? ⟨gb333, 4, none⟩ = some (.int .i64 0) := (blk_cell BK333.out 4).trans rfl; have hcz28_5 : w26.cell? ⟨gb333, 5, none⟩ = some (.int .i64 0) := (blk_cell BK333.out 5).trans rfl; have hcz28_6 : w26.cell? ⟨gb333, 6, none⟩ = some (.int .i64 0) := (blk_cell BK333.out 6).trans rfl; have hfz28_0 := blk_frozen BK333.out 0; have hfz28_1 := blk_frozen BK333.out 1; have hfz28_2 := blk_frozen BK333.out 2; have hfz28_3 := blk_frozen BK333.out 3; have hfz28_4 := blk_frozen BK333.out 4; have hfz28_5 := blk_frozen BK333.out 5; have hfz28_6 := blk_frozen BK333.out 6) | ((with_reducible refine gate_callee (f := 60) rfl ?_); refine goesL_ (some 42) rfl rfl Tryd.func60 (by kernel_rfl) rfl #[.agg #[.int .i64 t325, .int .i64 t326, .int .i64 t327, .int .i64 t328, .int .i64 t329, .int .i64 t330, .int .i64 t331], .bool false] rfl (by (try simp only [List.map_toArray, List.map_cons, List.map_nil]); first | done | rfl | (simp only [List.length_drop, List.length_take]; rfl)) ?_; (with_reducible refine (moment_read.calls t325 t326 t327 t328 t329 t330 t331 false t342 t343 t344 t345 t346 t347 t348 t349 _ A24.out (by first | exact laid_below HL_.out (by repeat (first | (with_reducible first | exact HB.out | apply below_alloc | apply pw_below_drewN | apply below_drew1 | refine below_set ?_ GW333.out) | exact HB.out)) | exact laid_drawn HL_.out (by repeat (first | exact Drawn0.refl _ | apply Drawn0.step)))).mono ?_); rintro e w29 ⟨rfl, hb⟩; refine ⟨_, rfl, ?_⟩; have n0_ := Aside0.mk (blk_below (g := gb314) (o := .cells #[.int .i64 0, .int .i64 0, .int .i64 0, .int .i64 0, .int .i64 0, .int .i64 0, .int .i64 0] 23 (0, 0)) (by (with_reducible repeat (first | refine blk_drewN ?_ _ | refine blk_drew ?_ | refine blk_alloc ?_ _)); refine blk_far ?_ NB314_333.out _; (with_reducible repeat (first | refine blk_drewN ?_ _ | refine blk_drew ?_ | refine blk_alloc ?_ _)); refine blk_far ?_ NB314_333.out _; (with_reducible repeat (first | refine blk_drewN ?_ _ | refine blk_drew ?_ | refine blk_alloc ?_ _)); refine blk_far ?_ NB314_333.out _; (with_reducible repeat (first | refine blk_drewN ?_ _ | refine blk_drew ?_ | refine blk_alloc ?_ _)); refine blk_far ?_ NB314_333.out _; (with_reducible repeat (first | refine blk_drewN ?_ _ | refine blk_drew ?_ | refine blk_alloc ?_ _)); refine blk_far ?_ NB314_333.out _; (with_reducible repeat (first | refine blk_drewN ?_ _ | refine blk_drew ?_ | refine blk_alloc ?_ _)); refine blk_far ?_ NB314_333.out _; (with_reducible repeat (first | refine blk_drewN ?_ _ | refine blk_drew ?_ | refine blk_alloc ?_ _)); refine blk_far ?_ NB314_333.out _; (with_reducible repeat (first | refine blk_drewN ?_ _ | refine blk_drew ?_ | refine blk_alloc ?_ _)); exact BK314.out) hb); have n1_ := Aside0.mk (blk_below (g := gb333) (o := .cells #[.int .i64 t325, .int .i64 t326, .int .i64 t327, .int .i64 t328, .int .i64 t329, .int .i64 t330, .int .i64 t331] 23 (0, 0)) (by (with_reducible repeat (first | refine blk_drewN ?_ _ | refine blk_drew ?_ | refine blk_alloc ?_ _)); refine blk_put (cs := #[.int .i64 t325, .int .i64 t326, .int .i64 t327, .int .i64 t328, .int .i64 t329, .int .i64 t330, .int .i64 0]) ?_ 6 _ rfl; (with_reducible repeat (first | refine blk_drewN ?_ _ | refine blk_drew ?_ | refine blk_alloc ?_ _)); refine blk_put (cs := #[.int .i64 t325, .int .i64 t326, .int .i64 t327, .int .i64 t328, .int .i64 t329, .int .i64 0, .int .i64 0]) ?_ 5 _ rfl; (with_reducible repeat (first | refine blk_drewN ?_ _ | refine blk_drew ?_ | refine blk_alloc ?_ _)); refine blk_put (cs := #[.int .i64 t325, .int .i64 t326, .int .i64 t327, .int .i64 t328, .int .i64 0, .int .i64 0, .int .i64 0]) ?_ 4 _ rfl; (with_reducible repeat (first | refine blk_drewN ?_ _ | refine blk_drew ?_ | refine blk_alloc ?_ _)); refine blk_put (cs := #[.int .i64 t325, .int .i64 t326, .int .i64 t327, .int .i64 0, .int .i64 0, .int .i64 0, .int .i64 0]) ?_ 3 _ rfl; (with_reducible repeat (first | refine blk_drewN ?_ _ | refine blk_drew ?_ | refine blk_alloc ?_ _)); refine blk_put (cs := #[.int .i64 t325, .int .i64 t326, .int .i64 0, .int .i64 0, .int .i64 0, .int .i64 0, .int .i64 0]) ?_ 2 _ rfl; (with_reducible repeat (first | refine blk_drewN ?_ _ | refine blk_drew ?_ | refine blk_alloc ?_ _)); refine blk_put (cs := #[.int .i64 t325, .int .i64 0, .int .i64 0, .int .i64 0, .int .i64 0, .int .i64 0, .int .i64 0]) ?_ 1 _ rfl; (with_reducible repeat (first | refine blk_drewN ?_ _ | refine blk_drew ?_ | refine blk_alloc ?_ _)); refine blk_put (cs := #[.int .i64 0, .int .i64 0, .int .i64 0, .int .i64 0, .int .i64 0, .int .i64 0, .int .i64 0]) ?_ 0 _ rfl; (with_reducible repeat (first | refine blk_drewN ?_ _ | refine blk_drew ?_ | refine blk_alloc ?_ _)); exact BK333.out) hb); have n2_ := Aside0.mk (below_step (by repeat (first | (with_reducible first | exact HB.out | apply below_alloc | apply pw_below_drewN | apply below_drew1 | refine below_set ?_ GE314.out | refine below_set ?_ GE333.out) | exact HB.out)) hb); clear BK314; clear BK333; clear HB; have BK314 := n0_; have BK333 := n1_; have HB := n2_; clear n0_ n1_ n2_; (try clear hb); (try clear hb2); (try clear hk); (try clear hi); have hcz30_0 : w29.cell? ⟨gb314, 0, none⟩ = some (.int .i64 0) := (blk_cell BK314.out 0).trans rfl; have hcz30_1 : w29.cell? ⟨gb314, 1, none⟩ = some (.int .i64 0) := (blk_cell BK314.out 1).trans rfl; have hcz30_2 : w29.cell? ⟨gb314, 2, none⟩ = some (.int .i64 0) := (blk_cell BK314.out 2).trans rfl; have hcz30_3 : w29.cell? ⟨gb314, 3, none⟩ = some (.int .i64 0) := (blk_cell BK314.out 3).trans rfl; have hcz30_4 : w29.cell? ⟨gb314, 4, none⟩ = some (.int .i64 0) := (blk_cell BK314.out 4).trans rfl; have hcz30_5 : w29.cell? ⟨gb314, 5, none⟩ = some (.int .i64 0) := (blk_cell BK314.out 5).trans rfl; have hcz30_6 : w29.cell? ⟨gb314, 6, none⟩ = some (.int .i64 0) := (blk_cell BK314.out 6).trans rfl; have hfz30_0 := blk_frozen BK314.out 0; have hfz30_1 := blk_frozen BK314.out 1; have hfz30_2 := blk_frozen BK314.out 2; have hfz30_3 := blk_frozen BK314.out 3; have hfz30_4 := blk_frozen BK314.out 4; have hfz30_5 := blk_frozen BK314.out 5; have hfz30_6 := blk_frozen BK314.out 6))
       refine bodyPost_ret (results_ct rfl _ _ gb314 23 #[.int .i64 t342, .int .i64 t343, .int .i64 t344, .int .i64 t345, .int .i64 t346, .int .i64 t347, .int .i64 t348] (0, 0) _ rfl (by (with_reducible repeat (first | refine blk_drewN ?_ _ | refine blk_drew ?_ | refine blk_alloc ?_ _)); refine blk_put (cs := #[.int .i64 t342, .int .i64 t343, .int .i64 t344, .int .i64 t345, .int .i64 t346, .int .i64 t347, .int .i64 0]) ?_ 6 _ rfl; (with_reducible repeat (first | refine blk_drewN ?_ _ | refine blk_drew ?_ | refine blk_alloc ?_ _)); refine blk_put (cs := #[.int .i64 t342, .int .i64 t343, .int .i64 t344, .int .i64 t345, .int .i64 t346, .int .i64 0, .int .i64 0]) ?_ 5 _ rfl; (with_reducible repeat (first | refine blk_drewN ?_ _ | refine blk_drew ?_ | refine blk_alloc ?_ _)); refine blk_put (cs := #[.int .i64 t342, .int .i64 t343, .int .i64 t344, .int .i64 t345, .int .i64 0, .int .i64 0, .int .i64 0]) ?_ 4 _ rfl; (with_reducible repeat (first | refine blk_drewN ?_ _ | refine blk_drew ?_ | refine blk_alloc ?_ _)); refine blk_put (cs := #[.int .i64 t342, .int .i64 t343, .int .i64 t344, .int .i64 0, .int .i64 0, .int .i64 0, .int .i64 0]) ?_ 3 _ rfl; (with_reducible repeat (first | refine blk_drewN ?_ _ | refine blk_drew ?_ | refine blk_alloc ?_ _)); refine blk_put (cs := #[.int .i64 t342, .int .i64 t343, .int .i64 0, .int .i64 0, .int .i64 0, .int .i64 0, .int .i64 0]) ?_ 2 _ rfl; (with_reducible repeat (first | refine blk_drewN ?_ _ | refine blk_drew ?_ | refine blk_alloc ?_ _)); refine blk_put (cs := #[.int .i64 t342, .int .i64 0, .int .i64 0, .int .i64 0, .int .i64 0, .int .i64 0, .int .i64 0]) ?_ 1 _ rfl; (with_reducible repeat (first | refine blk_drewN ?_ _ | refine blk_drew ?_ | refine blk_alloc ?_ _)); refine blk_put (cs := #[.int .i64 0, .int .i64 0, .int .i64 0, .int .i64 0, .int .i64 0, .int .i64 0, .int .i64 0]) ?_ 0 _ rfl; (with_reducible repeat (first | refine blk_drewN ?_ _ | refine blk_drew ?_ | refine blk_alloc ?_ _)); exact BK314.out) Tryd.underlying23 rfl (by kernel_rfl)) rfl ?_
       exact ⟨by first | rfl | (simp [errW_none, errW_some] <;> rfl) | (simp only [← hji9]; first | rfl | (simp [errW_none, errW_some] <;> rfl)) | (simp [*, errW_none, errW_some] <;> rfl), by repeat (first | (with_reducible first | exact HB.out | apply below_alloc | apply pw_below_drewN | apply below_drew1 | refine below_set ?_ GE314.out | refine below_set ?_ GE333.out) | exact HB.out)⟩
     ·rw [if_neg c11] at H
      exact absurd H (by simp)
    ·rw [if_neg c10] at H
     exact absurd H (by simp)
def postbagref2_ReadDay.j0 : Nat → ByteArray → Int → Bool → Option (Int × Int × Int × Int × Int × Int × Int × Int)
 | 0, _, _, _ => none
 | k + 1, x0, x4, x17 => if x17 = true then (some (0, 0, 0, 0, 0, 0, 0, 20)) else (if 0 ≤ x4 then (if x4 ≤ (x0.size : Int) then ((postbagref2_day.f k (x0.extract 0 (x4 : Int).toNat) (x0.extract (x4 : Int).toNat x0.size)).bind fun bt351 => ((postbagref2_told.f k bt351.1 bt351.2.1 bt351.2.2.1 bt351.2.2.2.1 bt351.2.2.2.2.1 bt351.2.2.2.2.2.1 bt351.2.2.2.2.2.2.1 bt351.2.2.2.2.2.2.2).bind fun bt360 => (some (bt360.1, bt360.2.1, bt360.2.2.1, bt360.2.2.2.1, bt360.2.2.2.2.1, bt360.2.2.2.2.2.1, bt360.2.2.2.2.2.2.1, bt360.2.2.2.2.2.2.2)))) else (none)) else (none))
def postbagref2_ReadDay.f (k : Nat) (a0 : ByteArray) : Option (Int × Int × Int × Int × Int × Int × Int × Int) := if (wrap64 ((a0.size : Int) - 9)) < 1 then (postbagref2_ReadDay.j0 k a0 (wrap64 ((a0.size : Int) - 9)) true) else (postbagref2_ReadDay.j0 k a0 (wrap64 ((a0.size : Int) - 9)) (decide ((wrap64 ((a0.size : Int) - 9)) > 2)))
def postbagref2_ReadDay.T4 : Bool × List (List Nat × List Nat) := (true, [([], []), ([], []), ([0, 1], [0, 1]), ([], []), ([], []), ([3, 4], [3, 4]), ([2, 5], [2, 5]), ([6], [6]), ([7], [7]), ([7], [7]), ([], []), ([10, 8, 6, 0, 1, 2, 3, 4, 5, 6, 7, 8, 10], [8, 10]), ([9, 11, 0, 1, 2, 3, 4, 5, 6, 7, 8, 9, 10, 11], [9])])
def postbagref2_ReadDay.B4 : List Nat := [0, 0, 3, 0, 0, 24, 63, 127, 255, 255, 0, 1535, 4095]
theorem postbagref2_ReadDay.tab4 : rtab .any (opsOf Tryd.f61 4) = postbagref2_ReadDay.T4 := by kernel_rfl
theorem postbagref2_ReadDay.bits4 : waitsOk postbagref2_ReadDay.T4.2 postbagref2_ReadDay.B4 = true := by kernel_rfl
set_option maxHeartbeats 8000000 in
set_option maxRecDepth 100000 in
theorem postbagref2_ReadDay.calls (k : Nat) (a0 : ByteArray) (r1 : Int) (r2 : Int) (r3 : Int) (r4 : Int) (r5 : Int) (r6 : Int) (r7 : Int) (r8 : Int) (w : World) (h : postbagref2_ReadDay.f k a0 = some (r1, r2, r3, r4, r5, r6, r7, r8)) :
  Calls Tryd.prog 61 #[.string a0] w fun e w' => e = .returned (.tuple #[.agg #[.int .i64 r1, .int .i64 r2, .int .i64 r3, .int .i64 r4, .int .i64 r5, .int .i64 r6, .int .i64 r7], .int .i64 r8]) ∧ Below w.heap.size w w' := by
 have hu23 := Tryd.underlying23
 have HB := Aside0.mk (Below.refl w.heap.size w)
 have H : (if (wrap64 ((a0.size : Int) - 9)) < 1 then (postbagref2_ReadDay.j0 k a0 (wrap64 ((a0.size : Int) - 9)) true) else (postbagref2_ReadDay.j0 k a0 (wrap64 ((a0.size : Int) - 9)) (decide ((wrap64 ((a0.size : Int) - 9)) > 2)))) = some (r1, r2, r3, r4, r5, r6, r7, r8) := h
 clear h
 have HC2 := Aside0.mk H
 clear H
 go_enter Tryd.func61, Tryd.ntmps61
 go_upto_region 2 with (first | ((with_reducible refine gate_dst (N := 2) rfl ?_); refine box_event ?hg (N := 2) ?hd (cs := #[.int .i64 0, .int .i64 0, .int .i64 0, .int .i64 0, .int .i64 0, .int .i64 0, .int .i64 0]) (t := 23) ?hr ?_; (case hd => rfl); (case hg => rfl); (case hr => first | (go_simp; done) | (go_simp; rfl)); intro gb350 hg w3 hbox hb; have n0_ := Aside0.mk (below_step (by repeat (first | (with_reducible first | exact HB.out | apply below_alloc | apply pw_below_drewN | apply below_drew1 | refine below_set ?_ GW333.out) | exact HB.out)) hb); have n1_ := Aside0.mk (hbox); have n2_ := Aside0.mk ((by rw [hg]; exact (below_size (by repeat (first | (with_reducible first | exact HB.out | apply below_alloc | apply pw_below_drewN | apply below_drew1 | refine below_set ?_ GW333.out) | exact HB.out))) : w.heap.size ≤ gb350)); have n3_ := Aside0.mk ((by rw [hg]; exact (below_size (by repeat (first | (with_reducible first | exact HB.out | apply below_alloc | apply pw_below_drewN | apply below_drew1 | refine below_set ?_ GW333.out) | exact HB.out))) : w.heap.size ≤ gb350)); clear HB; have HB := n0_; have BK350 := n1_; have GW350 := n2_; have GE350 := n3_; clear n0_ n1_ n2_ n3_; clear hb hbox hg))
 (try simp only [Act.put, s1_, s2_, s3_])
 go_cut [17] (fun v17 wc => ∃ (kq : Nat) (x17_1 : Bool), v17 = .bool x17_1 ∧ Aside0 (postbagref2_ReadDay.j0 kq a0 (wrap64 ((a0.size : Int) - 9)) x17_1 = some (r1, r2, r3, r4, r5, r6, r7, r8)) ∧ Aside0 (kq ≤ k) ∧ Aside0 (wc.heap[gb350]? = some (.cells #[.int .i64 0, .int .i64 0, .int .i64 0, .int .i64 0, .int .i64 0, .int .i64 0, .int .i64 0] 23 (0, 0))) ∧ Aside0 (Below w.heap.size w wc))
 case first =>
  have H := HC2.out
  clear HC2
  by_cases c4 : (wrap64 ((a0.size : Int) - 9)) < 1
  ·rw [if_pos c4] at H
   have c4b0 : decide ((wrap64 ((a0.size : Int) - 9)) < 1) = true := decide_eq_true c4
   clear c4
   (first | rw [c4b0] | (simp only [i64_w, i32_w]; rw [c4b0]) | skip)
   have H' := Aside0.mk H
   clear H
   go_wp2
   go_meet
   case rel => exact ⟨_, (true), (by first | rfl | (simp; done) | (simp [*]; done)), H', ⟨by first | omega | exact Nat.le_refl _⟩, ⟨by (with_reducible repeat (first | refine blk_drewN ?_ _ | refine blk_drew ?_ | refine blk_alloc ?_ _)); exact BK350.out⟩, ⟨by repeat (first | (with_reducible first | exact HB.out | apply below_alloc | apply pw_below_drewN | apply below_drew1 | refine below_set ?_ GE350.out) | exact HB.out)⟩⟩
  ·rw [if_neg c4] at H
   have c4b0 : decide ((wrap64 ((a0.size : Int) - 9)) < 1) = false := decide_eq_false c4
   clear c4
   (first | rw [c4b0] | (simp only [i64_w, i32_w]; rw [c4b0]) | skip)
   have H' := Aside0.mk H
   clear H
   go_wp2
   go_meet
   case rel => exact ⟨_, (decide ((wrap64 ((a0.size : Int) - 9)) > 2)), (by first | rfl | (simp; done) | (simp [*]; done)), H', ⟨by first | omega | exact Nat.le_refl _⟩, ⟨by (with_reducible repeat (first | refine blk_drewN ?_ _ | refine blk_drew ?_ | refine blk_alloc ?_ _)); exact BK350.out⟩, ⟨by repeat (first | (with_reducible first | exact HB.out | apply below_alloc | apply pw_below_drewN | apply below_drew1 | refine below_set ?_ GE350.out) | exact HB.out)⟩⟩
 case rest =>
  clear HC2
  try clear p2
  try clear c4
  try clear c4b0
  obtain ⟨kq, x17_1, rfl, HA, HJ1, BK350, HB⟩ := hcut
  cases kq with
  | zero => exact absurd HA.out (by simp [postbagref2_ReadDay.j0])
  | succ kj1 =>
   have H := HA.out
   clear HA
   simp only [postbagref2_ReadDay.j0] at H
   by_cases c5 : x17_1 = true
   ·subst c5
    have H1 : (some (0, 0, 0, 0, 0, 0, 0, 20)) = some (r1, r2, r3, r4, r5, r6, r7, r8) := by rw [if_pos rfl] at H; exact H
    clear H
    have H := H1
    clear H1
    simp only [Option.some.injEq, Prod.mk.injEq] at H
    obtain ⟨rfl, rfl, rfl, rfl, rfl, rfl, rfl, rfl⟩ := H
    have hcz6_0 : wc.cell? ⟨gb350, 0, none⟩ = some (.int .i64 0) := (blk_cell BK350.out 0).trans rfl
    have hcz6_1 : wc.cell? ⟨gb350, 1, none⟩ = some (.int .i64 0) := (blk_cell BK350.out 1).trans rfl
    have hcz6_2 : wc.cell? ⟨gb350, 2, none⟩ = some (.int .i64 0) := (blk_cell BK350.out 2).trans rfl
    have hcz6_3 : wc.cell? ⟨gb350, 3, none⟩ = some (.int .i64 0) := (blk_cell BK350.out 3).trans rfl
    have hcz6_4 : wc.cell? ⟨gb350, 4, none⟩ = some (.int .i64 0) := (blk_cell BK350.out 4).trans rfl
    have hcz6_5 : wc.cell? ⟨gb350, 5, none⟩ = some (.int .i64 0) := (blk_cell BK350.out 5).trans rfl
    have hcz6_6 : wc.cell? ⟨gb350, 6, none⟩ = some (.int .i64 0) := (blk_cell BK350.out 6).trans rfl
    have hfz6_0 := blk_frozen BK350.out 0
    have hfz6_1 := blk_frozen BK350.out 1
    have hfz6_2 := blk_frozen BK350.out 2
    have hfz6_3 := blk_frozen BK350.out 3
    have hfz6_4 := blk_frozen BK350.out 4
    have hfz6_5 := blk_frozen BK350.out 5
    have hfz6_6 := blk_frozen BK350.out 6
    go_wp2
    refine bodyPost_ret (results_ct rfl _ _ gb350 23 #[.int .i64 0, .int .i64 0, .int .i64 0, .int .i64 0, .int .i64 0, .int .i64 0, .int .i64 0] (0, 0) _ rfl (by (with_reducible repeat (first | refine blk_drewN ?_ _ | refine blk_drew ?_ | refine blk_alloc ?_ _)); refine blk_put (cs := #[.int .i64 0, .int .i64 0, .int .i64 0, .int .i64 0, .int .i64 0, .int .i64 0, .int .i64 0]) ?_ 6 _ rfl; (with_reducible repeat (first | refine blk_drewN ?_ _ | refine blk_drew ?_ | refine blk_alloc ?_ _)); refine blk_put (cs := #[.int .i64 0, .int .i64 0, .int .i64 0, .int .i64 0, .int .i64 0, .int .i64 0, .int .i64 0]) ?_ 5 _ rfl; (with_reducible repeat (first | refine blk_drewN ?_ _ | refine blk_drew ?_ | refine blk_alloc ?_ _)); refine blk_put (cs := #[.int .i64 0, .int .i64 0, .int .i64 0, .int .i64 0, .int .i64 0, .int .i64 0, .int .i64 0]) ?_ 4 _ rfl; (with_reducible repeat (first | refine blk_drewN ?_ _ | refine blk_drew ?_ | refine blk_alloc ?_ _)); refine blk_put (cs := #[.int .i64 0, .int .i64 0, .int .i64 0, .int .i64 0, .int .i64 0, .int .i64 0, .int .i64 0]) ?_ 3 _ rfl; (with_reducible repeat (first | refine blk_drewN ?_ _ | refine blk_drew ?_ | refine blk_alloc ?_ _)); refine blk_put (cs := #[.int .i64 0, .int .i64 0, .int .i64 0, .int .i64 0, .int .i64 0, .int .i64 0, .int .i64 0]) ?_ 2 _ rfl; (with_reducible repeat (first | refine blk_drewN ?_ _ | refine blk_drew ?_ | refine blk_alloc ?_ _)); refine blk_put (cs := #[.int .i64 0, .int .i64 0, .int .i64 0, .int .i64 0, .int .i64 0, .int .i64 0, .int .i64 0]) ?_ 1 _ rfl; (with_reducible repeat (first | refine blk_drewN ?_ _ | refine blk_drew ?_ | refine blk_alloc ?_ _)); refine blk_put (cs := #[.int .i64 0, .int .i64 0, .int .i64 0, .int .i64 0, .int .i64 0, .int .i64 0, .int .i64 0]) ?_ 0 _ rfl; (with_reducible repeat (first | refine blk_drewN ?_ _ | refine blk_drew ?_ | refine blk_alloc ?_ _)); exact BK350.out) Tryd.underlying23 rfl (by kernel_rfl)) rfl ?_
    exact ⟨by first | rfl | (simp [errW_none, errW_some] <;> rfl) | (simp [*, errW_none, errW_some] <;> rfl), by repeat (first | (with_reducible first | exact HB.out | apply below_alloc | apply pw_below_drewN | apply below_drew1 | refine below_set ?_ GE350.out) | exact HB.out)⟩
   ·replace c5 := Bool.eq_false_iff.mpr c5
    subst c5
    have H1 : (if 0 ≤ (wrap64 ((a0.size : Int) - 9)) then (if (wrap64 ((a0.size : Int) - 9)) ≤ (a0.size : Int) then ((postbagref2_day.f kj1 (a0.extract 0 ((wrap64 ((a0.size : Int) - 9)) : Int).toNat) (a0.extract ((wrap64 ((a0.size : Int) - 9)) : Int).toNat a0.size)).bind fun bt351 => ((postbagref2_told.f kj1 bt351.1 bt351.2.1 bt351.2.2.1 bt351.2.2.2.1 bt351.2.2.2.2.1 bt351.2.2.2.2.2.1 bt351.2.2.2.2.2.2.1 bt351.2.2.2.2.2.2.2).bind fun bt360 => (some (bt360.1, bt360.2.1, bt360.2.2.1, bt360.2.2.2.1, bt360.2.2.2.2.1, bt360.2.2.2.2.2.1, bt360.2.2.2.2.2.2.1, bt360.2.2.2.2.2.2.2)))) else (none)) else (none)) = some (r1, r2, r3, r4, r5, r6, r7, r8) := by rw [if_neg (show ¬ (false = true) by decide)] at H; exact H
    clear H
    have H := H1
    clear H1
    obtain ⟨ji7, hji7⟩ : ∃ j_ : Int, (wrap64 ((a0.size : Int) - 9)) = j_ := ⟨_, rfl⟩
    replace H : (if 0 ≤ (ji7) then (if (ji7) ≤ (a0.size : Int) then ((postbagref2_day.f kj1 (a0.extract 0 ((ji7) : Int).toNat) (a0.extract ((ji7) : Int).toNat a0.size)).bind fun bt351 => ((postbagref2_told.f kj1 bt351.1 bt351.2.1 bt351.2.2.1 bt351.2.2.2.1 bt351.2.2.2.2.1 bt351.2.2.2.2.2.1 bt351.2.2.2.2.2.2.1 bt351.2.2.2.2.2.2.2).bind fun bt360 => (some (bt360.1, bt360.2.1, bt360.2.2.1, bt360.2.2.2.1, bt360.2.2.2.2.1, bt360.2.2.2.2.2.1, bt360.2.2.2.2.2.2.1, bt360.2.2.2.2.2.2.2)))) else (none)) else (none)) = some (r1, r2, r3, r4, r5, r6, r7, r8) := by first | (rw [hji7] at H; exact H) | (simp only [hji7] at H ⊢; exact H)
    have hji7w : (IntKind.i64.wrap ((a0.size : Int) - 9)) = ji7 := (i64_w _).trans hji7
    by_cases c8 : 0 ≤ (ji7)
    ·rw [if_pos c8] at H
     have c8b0 := eq_true c8
     have c8b1 : decide (0 ≤ (ji7)) = true := decide_eq_true c8
     clear c8
     by_cases c9 : (ji7) ≤ (a0.size : Int)
     ·rw [if_pos c9] at H
      have c9b0 := eq_true c9
      have c9b1 : decide ((ji7) ≤ (a0.size : Int)) = true := decide_eq_true c9
      clear c9
      have c10b0 := eq_true (of_decide_eq_true (by first | (with_reducible assumption) | assumption) : 0 ≤ (ji7))
      have c11b0 := eq_true (of_decide_eq_true (by first | (with_reducible assumption) | assumption) : (ji7) ≤ (a0.size : Int))
      replace H := Option.bind_eq_some_iff.mp H
      obtain ⟨⟨t351, t352, t353, t354, t355, t356, t357, t358⟩, A120, H⟩ := H
      replace H : ((postbagref2_told.f kj1 t351 t352 t353 t354 t355 t356 t357 t358).bind fun bt360 => (some (bt360.1, bt360.2.1, bt360.2.2.1, bt360.2.2.2.1, bt360.2.2.2.2.1, bt360.2.2.2.2.2.1, bt360.2.2.2.2.2.2.1, bt360.2.2.2.2.2.2.2))) = some (r1, r2, r3, r4, r5, r6, r7, r8) := H
      have A12 := Aside0.mk A120
      clear A120
      replace H := Option.bind_eq_some_iff.mp H
      obtain ⟨⟨t360, t361, t362, t363, t364, t365, t366, t367⟩, A130, H⟩ := H
      replace H : (some (t360, t361, t362, t363, t364, t365, t366, t367)) = some (r1, r2, r3, r4, r5, r6, r7, r8) := H
      have A13 := Aside0.mk A130
      clear A130
      simp only [Option.some.injEq, Prod.mk.injEq] at H
      obtain ⟨rfl, rfl, rfl, rfl, rfl, rfl, rfl, rfl⟩ := H
      try go_wp2
      have n0_ := Aside0.mk (blk_drew BK350.out)
      have n1_ := Aside0.mk (below_drew1 HB.out)
      clear BK350
      clear HB
      have BK350 := n0_
      have HB := n1_
      clear n0_ n1_
      refine start_ (n := 13) (S := fun w' => True) (ds := []) (bs_ 0 13) (by kernel_rfl) rfl rfl trivial (fun hHeld => ?_); refine with_tabW postbagref2_ReadDay.tab4 postbagref2_ReadDay.bits4 (fun HT_ HW_ => ?_)
      generalize wc.drew = w14 at BK350 HB hHeld ⊢
      refine pu_ 0 (some 20) ?_ (bs_ 1 12) rfl rfl (any_of HT_.out (by kernel_rfl)) (fun _ _ _ h => h) (y_ (by rfl) ?_) ?_ ?_ ?_
      rotate_left
      ·intro w'
       go_simp
       with_reducible rfl
      rotate_left
      ·simp only [Act.put, s1_, s2_, s3_, i64_w, i32_w]
       rfl
      refine pu_ 1 (some 21) ?_ (bs_ 2 11) rfl rfl (any_of HT_.out (by kernel_rfl)) (fun _ _ _ h => h) (y_ (by rfl) ?_) ?_ ?_ ?_
      rotate_left
      ·intro w'
       go_simp
       with_reducible rfl
      rotate_left
      ·simp only [Act.put, s1_, s2_, s3_, i64_w, i32_w]
       rfl
      refine pu_ 2 (some 22) ?_ (bs_ 3 10) rfl rfl (any_of HT_.out (by kernel_rfl)) (fun _ _ _ h => h) (y_ (by rfl) ?_) ?_ ?_ ?_
      rotate_left
      ·intro w'
       go_simp
       with_reducible rfl
      rotate_left
      ·simp only [Act.put, s1_, s2_, s3_, i64_w, i32_w]
       rfl
      refine pu_ 3 (some 23) ?_ (bs_ 4 9) rfl rfl (any_of HT_.out (by kernel_rfl)) (fun _ _ _ h => h) (y_ (by rfl) ?_) ?_ ?_ ?_
      rotate_left
      ·intro w'
       go_simp
       with_reducible rfl
      rotate_left
      ·simp only [Act.put, s1_, s2_, s3_, i64_w, i32_w]
       rfl
      refine pu_ 4 (some 24) ?_ (bs_ 5 8) rfl rfl (any_of HT_.out (by kernel_rfl)) (fun _ _ _ h => h) (y_ (by rfl) ?_) ?_ ?_ ?_
      rotate_left
      ·intro w'
       go_simp
       with_reducible rfl
      rotate_left
      ·simp only [Act.put, s1_, s2_, s3_, i64_w, i32_w]
       rfl
      refine pu_ 5 (some 25) ?_ (bs_ 6 7) rfl rfl (any_of HT_.out (by kernel_rfl)) (fun _ _ _ h => h) (y_ (by rfl) ?_) ?_ ?_ ?_
      rotate_left
      ·intro w'
       go_simp
       with_reducible rfl
      rotate_left
      ·simp only [Act.put, s1_, s2_, s3_, i64_w, i32_w]
       rfl
      refine join_ (σ := Nat) 2 (bs_ 11 2) (fun s_ => [(26, .tuple #[.agg #[.int .i64 t351, .int .i64 t352, .int .i64 t353, .int .i64 t354, .int .i64 t355, .int .i64 t356, .int .i64 t357], .bool t358]), (5, .pointer (some ⟨s_, 0, none⟩)), (19, .tuple #[.agg #[.int .i64 t351, .int .i64 t352, .int .i64 t353, .int .i64 t354, .int .i64 t355, .int .i64 t356, .int .i64 t357], .bool t358]), (27, .agg #[.int .i64 t351, .int .i64 t352, .int .i64 t353, .int .i64 t354, .int .i64 t355, .int .i64 t356, .int .i64 t357]), (28, .bool t358)]) (fun s_ w' => (w'.heap[gb350]? = some (.cells #[.int .i64 0, .int .i64 0, .int .i64 0, .int .i64 0, .int .i64 0, .int .i64 0, .int .i64 0] 23 (0, 0))) ∧ (w'.heap[s_]? = some (.cells #[.int .i64 0, .int .i64 0, .int .i64 0, .int .i64 0, .int .i64 0, .int .i64 0, .int .i64 0] 23 (0, 0))) ∧ (w.heap.size ≤ s_) ∧ (w.heap.size ≤ s_) ∧ (gb350 ≠ s_) ∧ (s_ ≠ gb350) ∧ (Below w.heap.size w w')) ?_ ?_
      rotate_left
      ·intro hCont
       refine two_ (i := 6) (j := 10) (Ni := some 26) (Nj := some 5) (bs_ 7 6) #[true, true, true, true, true, true, false, false, false, false, true, false, false] rfl rfl rfl rfl (two_of HT_.out (by kernel_rfl)) (by decide) (by decide) (fun K hK => ?_) (fun K hK => ?_)
       ·skip
        refine goes_ Tryd.func74 (by kernel_rfl) rfl #[.string (a0.extract 0 ((ji7) : Int).toNat), .string (a0.extract ((ji7) : Int).toNat a0.size)] (by rfl) rfl rfl (by (try simp only [List.map_toArray, List.map_cons, List.map_nil]); first | done | (simp only [hji7]; rfl) | rfl | (simp only [List.length_drop, List.length_take]; rfl)) ?_
        with_reducible refine (postbagref2_day.calls kj1 (a0.extract 0 ((ji7) : Int).toNat) (a0.extract ((ji7) : Int).toNat a0.size) t351 t352 t353 t354 t355 t356 t357 t358 _ A12.out).mono ?_
        rintro e w15 ⟨rfl, hb⟩
        refine ⟨_, rfl, ?_⟩
        have n0_ := Aside0.mk (blk_below (g := gb350) (o := .cells #[.int .i64 0, .int .i64 0, .int .i64 0, .int .i64 0, .int .i64 0, .int .i64 0, .int .i64 0] 23 (0, 0)) (by (with_reducible repeat (first | refine blk_drewN ?_ _ | refine blk_drew ?_ | refine blk_alloc ?_ _)); exact BK350.out) hb)
        have n1_ := Aside0.mk (below_step (by repeat (first | (with_reducible first | exact HB.out | apply below_alloc | apply pw_below_drewN | apply below_drew1 | refine below_set ?_ GE350.out) | exact HB.out)) hb)
        clear BK350
        clear HB
        have BK350 := n0_
        have HB := n1_
        clear n0_ n1_
        (try clear hb)
        (try clear hb2)
        (try clear hk)
        (try clear hi)
        refine hK.out _ _ trivial (fun hHeld => ?_)
        clear hK K
        refine norm_ (a' := ?_) ?_ ?_
        rotate_left
        ·show Act.put _ (some 26) _ = _
         simp only [Act.put, s1_, s2_, s3_, i64_w, i32_w]
         rfl
        refine pu_ 7 (some 19) ?_ (bs_ 8 5) rfl rfl (any_of HT_.out (by kernel_rfl)) (fun _ _ _ h => h) (y_ (by rfl) ?_) ?_ ?_ ?_
        rotate_left
        ·intro w'
         go_simp
         with_reducible rfl
        rotate_left
        ·simp only [Act.put, s1_, s2_, s3_, i64_w, i32_w]
         rfl
        refine pu_ 8 (some 27) ?_ (bs_ 9 4) rfl rfl (any_of HT_.out (by kernel_rfl)) (fun _ _ _ h => h) (y_ (by rfl) ?_) ?_ ?_ ?_
        rotate_left
        ·intro w'
         go_simp
         with_reducible rfl
        rotate_left
        ·simp only [Act.put, s1_, s2_, s3_, i64_w, i32_w]
         rfl
        refine pu_ 9 (some 28) ?_ (bs_ 10 3) rfl rfl (any_of HT_.out (by kernel_rfl)) (fun _ _ _ h => h) (y_ (by rfl) ?_) ?_ ?_ ?_
        rotate_left
        ·intro w'
         go_simp
         with_reducible rfl
        rotate_left
        ·simp only [Act.put, s1_, s2_, s3_, i64_w, i32_w]
         rfl
        refine one_ (i := 10) (N := some 5) (bs_ 11 2) rfl rfl (one_of HT_.out (by kernel_rfl)) (by decide) (fun K hK => ?_)
        refine box_step ?hg (N := 5) ?hd (cs := #[.int .i64 0, .int .i64 0, .int .i64 0, .int .i64 0, .int .i64 0, .int .i64 0, .int .i64 0]) (t := 23) ?hr ?_; (case hd => rfl); (case hg => rfl); (case hr => first | (go_simp; done) | (go_simp; rfl))
        intro gb359 hg w16 hbox hb
        have n0_ := Aside0.mk (blk_below (g := gb350) (o := .cells #[.int .i64 0, .int .i64 0, .int .i64 0, .int .i64 0, .int .i64 0, .int .i64 0, .int .i64 0] 23 (0, 0)) (by (with_reducible repeat (first | refine blk_drewN ?_ _ | refine blk_drew ?_ | refine blk_alloc ?_ _)); exact BK350.out) hb)
        have n1_ := Aside0.mk (below_step (by repeat (first | (with_reducible first | exact HB.out | apply below_alloc | apply pw_below_drewN | apply below_drew1 | refine below_set ?_ GE350.out) | exact HB.out)) hb)
        have n2_ := Aside0.mk (hbox)
        have n3_ := Aside0.mk ((by rw [hg]; exact (below_size (by repeat (first | (with_reducible first | exact HB.out | apply below_alloc | apply pw_below_drewN | apply below_drew1 | refine below_set ?_ GE350.out) | exact HB.out))) : w.heap.size ≤ gb359))
        have n4_ := Aside0.mk ((by rw [hg]; exact (below_size (by repeat (first | (with_reducible first | exact HB.out | apply below_alloc | apply pw_below_drewN | apply below_drew1 | refine below_set ?_ GE350.out) | exact HB.out))) : w.heap.size ≤ gb359))
        have n5_ := Aside0.mk ((by rw [hg]; exact Nat.ne_of_lt (blk_lt (g := gb350) (o := .cells #[.int .i64 0, .int .i64 0, .int .i64 0, .int .i64 0, .int .i64 0, .int .i64 0, .int .i64 0] 23 (0, 0)) (by (with_reducible repeat (first | refine blk_drewN ?_ _ | refine blk_drew ?_ | refine blk_alloc ?_ _)); exact BK350.out)) : gb350 ≠ gb359))
        have n6_ := Aside0.mk ((by rw [hg]; exact Nat.ne_of_gt (blk_lt (g := gb350) (o := .cells #[.int .i64 0, .int .i64 0, .int .i64 0, .int .i64 0, .int .i64 0, .int .i64 0, .int .i64 0] 23 (0, 0)) (by (with_reducible repeat (first | refine blk_drewN ?_ _ | refine blk_drew ?_ | refine blk_alloc ?_ _)); exact BK350.out)) : gb359 ≠ gb350))
        clear BK350
        clear HB
        have BK350 := n0_
        have HB := n1_
        have BK359 := n2_
        have GW359 := n3_
        have GE359 := n4_
        have NB350_359 := n5_
        have NB359_350 := n6_
        clear n0_ n1_ n2_ n3_ n4_ n5_ n6_
        clear hb hbox hg
        refine hK.out _ _ trivial (fun hHeld => ?_)
        clear hK K
        refine norm_ (a' := ?_) ?_ ?_
        rotate_left
        ·show Act.put _ (some 5) _ = _
         simp only [Act.put, s1_, s2_, s3_, i64_w, i32_w]
         rfl
        exact norm_ (by simp only [putAll, Act.put, s1_, s2_, s3_]) (hCont (gb359) _ ⟨(by (with_reducible repeat (first | refine blk_drewN ?_ _ | refine blk_drew ?_ | refine blk_alloc ?_ _)); exact BK350.out), (by (with_reducible repeat (first | refine blk_drewN ?_ _ | refine blk_drew ?_ | refine blk_alloc ?_ _)); exact BK359.out), GW359.out, GE359.out, NB350_359.out, NB359_350.out, (by repeat (first | (with_reducible first | exact HB.out | apply below_alloc | apply pw_below_drewN | apply below_drew1 | refine below_set ?_ GE350.out | refine below_set ?_ GE359.out) | exact HB.out))⟩)
       ·skip
        refine box_step ?hg (N := 5) ?hd (cs := #[.int .i64 0, .int .i64 0, .int .i64 0, .int .i64 0, .int .i64 0, .int .i64 0, .int .i64 0]) (t := 23) ?hr ?_; (case hd => rfl); (case hg => rfl); (case hr => first | (go_simp; done) | (go_simp; rfl))
        intro gb359 hg w15 hbox hb
        have n0_ := Aside0.mk (blk_below (g := gb350) (o := .cells #[.int .i64 0, .int .i64 0, .int .i64 0, .int .i64 0, .int .i64 0, .int .i64 0, .int .i64 0] 23 (0, 0)) (by (with_reducible repeat (first | refine blk_drewN ?_ _ | refine blk_drew ?_ | refine blk_alloc ?_ _)); exact BK350.out) hb)
        have n1_ := Aside0.mk (below_step (by repeat (first | (with_reducible first | exact HB.out | apply below_alloc | apply pw_below_drewN | apply below_drew1 | refine below_set ?_ GE350.out) | exact HB.out)) hb)
        have n2_ := Aside0.mk (hbox)
        have n3_ := Aside0.mk ((by rw [hg]; exact (below_size (by repeat (first | (with_reducible first | exact HB.out | apply below_alloc | apply pw_below_drewN | apply below_drew1 | refine below_set ?_ GE350.out) | exact HB.out))) : w.heap.size ≤ gb359))
        have n4_ := Aside0.mk ((by rw [hg]; exact (below_size (by repeat (first | (with_reducible first | exact HB.out | apply below_alloc | apply pw_below_drewN | apply below_drew1 | refine below_set ?_ GE350.out) | exact HB.out))) : w.heap.size ≤ gb359))
        have n5_ := Aside0.mk ((by rw [hg]; exact Nat.ne_of_lt (blk_lt (g := gb350) (o := .cells #[.int .i64 0, .int .i64 0, .int .i64 0, .int .i64 0, .int .i64 0, .int .i64 0, .int .i64 0] 23 (0, 0)) (by (with_reducible repeat (first | refine blk_drewN ?_ _ | refine blk_drew ?_ | refine blk_alloc ?_ _)); exact BK350.out)) : gb350 ≠ gb359))
        have n6_ := Aside0.mk ((by rw [hg]; exact Nat.ne_of_gt (blk_lt (g := gb350) (o := .cells #[.int .i64 0, .int .i64 0, .int .i64 0, .int .i64 0, .int .i64 0, .int .i64 0, .int .i64 0] 23 (0, 0)) (by (with_reducible repeat (first | refine blk_drewN ?_ _ | refine blk_drew ?_ | refine blk_alloc ?_ _)); exact BK350.out)) : gb359 ≠ gb350))
        clear BK350
        clear HB
        have BK350 := n0_
        have HB := n1_
        have BK359 := n2_
        have GW359 := n3_
        have GE359 := n4_
        have NB350_359 := n5_
        have NB359_350 := n6_
        clear n0_ n1_ n2_ n3_ n4_ n5_ n6_
        clear hb hbox hg
        refine hK.out _ _ trivial (fun hHeld => ?_)
        clear hK K
        refine norm_ (a' := ?_) ?_ ?_
        rotate_left
        ·show Act.put _ (some 5) _ = _
         simp only [Act.put, s1_, s2_, s3_, i64_w, i32_w]
         rfl
        refine one_ (i := 6) (N := some 26) #[true, true, true, true, true, true, true, false, false, false, true, false, false] rfl rfl (one_of HT_.out (by kernel_rfl)) (by decide) (fun K hK => ?_)
        refine goes_ Tryd.func74 (by kernel_rfl) rfl #[.string (a0.extract 0 ((ji7) : Int).toNat), .string (a0.extract ((ji7) : Int).toNat a0.size)] (by rfl) rfl rfl (by (try simp only [List.map_toArray, List.map_cons, List.map_nil]); first | done | (simp only [hji7]; rfl) | rfl | (simp only [List.length_drop, List.length_take]; rfl)) ?_
        with_reducible refine (postbagref2_day.calls kj1 (a0.extract 0 ((ji7) : Int).toNat) (a0.extract ((ji7) : Int).toNat a0.size) t351 t352 t353 t354 t355 t356 t357 t358 _ A12.out).mono ?_
        rintro e w16 ⟨rfl, hb⟩
        refine ⟨_, rfl, ?_⟩
        have n0_ := Aside0.mk (blk_below (g := gb350) (o := .cells #[.int .i64 0, .int .i64 0, .int .i64 0, .int .i64 0, .int .i64 0, .int .i64 0, .int .i64 0] 23 (0, 0)) (by (with_reducible repeat (first | refine blk_drewN ?_ _ | refine blk_drew ?_ | refine blk_alloc ?_ _)); exact BK350.out) hb)
        have n1_ := Aside0.mk (blk_below (g := gb359) (o := .cells #[.int .i64 0, .int .i64 0, .int .i64 0, .int .i64 0, .int .i64 0, .int .i64 0, .int .i64 0] 23 (0, 0)) (by (with_reducible repeat (first | refine blk_drewN ?_ _ | refine blk_drew ?_ | refine blk_alloc ?_ _)); exact BK359.out) hb)
        have n2_ := Aside0.mk (below_step (by repeat (first | (with_reducible first | exact HB.out | apply below_alloc | apply pw_below_drewN | apply below_drew1 | refine below_set ?_ GE350.out | refine below_set ?_ GE359.out) | exact HB.out)) hb)
        clear BK350
        clear BK359
        clear HB
        have BK350 := n0_
        have BK359 := n1_
        have HB := n2_
        clear n0_ n1_ n2_
        (try clear hb)
        (try clear hb2)
        (try clear hk)
        (try clear hi)
        refine hK.out _ _ trivial (fun hHeld => ?_)
        clear hK K
        refine norm_ (a' := ?_) ?_ ?_
        rotate_left
        ·show Act.put _ (some 26) _ = _
         simp only [Act.put, s1_, s2_, s3_, i64_w, i32_w]
         rfl
        refine pu_ 7 (some 19) ?_ #[true, true, true, true, true, true, true, true, false, false, true, false, false] rfl rfl (any_of HT_.out (by kernel_rfl)) (fun _ _ _ h => h) (y_ (by rfl) ?_) ?_ ?_ ?_
        rotate_left
        ·intro w'
         go_simp
         with_reducible rfl
        rotate_left
        ·simp only [Act.put, s1_, s2_, s3_, i64_w, i32_w]
         rfl
        refine pu_ 8 (some 27) ?_ #[true, true, true, true, true, true, true, true, true, false, true, false, false] rfl rfl (any_of HT_.out (by kernel_rfl)) (fun _ _ _ h => h) (y_ (by rfl) ?_) ?_ ?_ ?_
        rotate_left
        ·intro w'
         go_simp
         with_reducible rfl
        rotate_left
        ·simp only [Act.put, s1_, s2_, s3_, i64_w, i32_w]
         rfl
        refine pu_ 9 (some 28) ?_ (bs_ 11 2) rfl rfl (any_of HT_.out (by kernel_rfl)) (fun _ _ _ h => h) (y_ (by rfl) ?_) ?_ ?_ ?_
        rotate_left
        ·intro w'
         go_simp
         with_reducible rfl
        rotate_left
        ·simp only [Act.put, s1_, s2_, s3_, i64_w, i32_w]
         rfl
        exact norm_ (by simp only [putAll, Act.put, s1_, s2_, s3_]) (hCont (gb359) _ ⟨(by (with_reducible repeat (first | refine blk_drewN ?_ _ | refine blk_drew ?_ | refine blk_alloc ?_ _)); exact BK350.out), (by (with_reducible repeat (first | refine blk_drewN ?_ _ | refine blk_drew ?_ | refine blk_alloc ?_ _)); exact BK359.out), GW359.out, GE359.out, NB350_359.out, NB359_350.out, (by repeat (first | (with_reducible first | exact HB.out | apply below_alloc | apply pw_below_drewN | apply below_drew1 | refine below_set ?_ GE350.out | refine below_set ?_ GE359.out) | exact HB.out))⟩)
      rintro gb359 w17 ⟨h0_, h1_, h2_, h3_, h4_, h5_, h6_⟩
      have n0_ : Aside0 (w17.heap[gb350]? = some (.cells #[.int .i64 0, .int .i64 0, .int .i64 0, .int .i64 0, .int .i64 0, .int .i64 0, .int .i64 0] 23 (0, 0))) := ⟨h0_⟩
      have n1_ : Aside0 (w17.heap[gb359]? = some (.cells #[.int .i64 0, .int .i64 0, .int .i64 0, .int .i64 0, .int .i64 0, .int .i64 0, .int .i64 0] 23 (0, 0))) := ⟨h1_⟩
      have n2_ : Aside0 (w.heap.size ≤ gb359) := ⟨h2_⟩
      have n3_ : Aside0 (w.heap.size ≤ gb359) := ⟨h3_⟩
      have n4_ : Aside0 (gb350 ≠ gb359) := ⟨h4_⟩
      have n5_ : Aside0 (gb359 ≠ gb350) := ⟨h5_⟩
      have n6_ : Aside0 (Below w.heap.size w w17) := ⟨h6_⟩
      clear BK350
      clear HB
      clear h0_ h1_ h2_ h3_ h4_ h5_ h6_
      have BK350 := n0_
      have BK359 := n1_
      have GW359 := n2_
      have GE359 := n3_
      have NB350_359 := n4_
      have NB359_350 := n5_
      have HB := n6_
      clear n0_ n1_ n2_ n3_ n4_ n5_ n6_
      have hHeld := trivial
      refine norm_ (a' := ?_) ?_ ?_
      rotate_left
      ·simp only [putAll, Act.put, s1_, s2_, s3_]
       rfl
      refine one_ (i := 11) (N := none) (bs_ 12 1) rfl rfl (one_of HT_.out (by kernel_rfl)) (by decide) (fun K hK => ?_)
      have hs18 : w17.cell? ⟨gb359, 0, none⟩ = some (.int .i64 0) := (blk_cell BK359.out 0).trans rfl
      have hfs18 := blk_frozen BK359.out 0
      have hns18_0 := NB350_359.out
      have hms18_0 := NB359_350.out
      have hs19 : w17.cell? ⟨gb359, 1, none⟩ = some (.int .i64 0) := (blk_cell BK359.out 1).trans rfl
      have hfs19 := blk_frozen BK359.out 1
      have hns19_0 := NB350_359.out
      have hms19_0 := NB359_350.out
      have hs20 : w17.cell? ⟨gb359, 2, none⟩ = some (.int .i64 0) := (blk_cell BK359.out 2).trans rfl
      have hfs20 := blk_frozen BK359.out 2
      have hns20_0 := NB350_359.out
      have hms20_0 := NB359_350.out
      have hs21 : w17.cell? ⟨gb359, 3, none⟩ = some (.int .i64 0) := (blk_cell BK359.out 3).trans rfl
      have hfs21 := blk_frozen BK359.out 3
      have hns21_0 := NB350_359.out
      have hms21_0 := NB359_350.out
      have hs22 : w17.cell? ⟨gb359, 4, none⟩ = some (.int .i64 0) := (blk_cell BK359.out 4).trans rfl
      have hfs22 := blk_frozen BK359.out 4
      have hns22_0 := NB350_359.out
      have hms22_0 := NB359_350.out
      have hs23 : w17.cell? ⟨gb359, 5, none⟩ = some (.int .i64 0) := (blk_cell BK359.out 5).trans rfl
      have hfs23 := blk_frozen BK359.out 5
      have hns23_0 := NB350_359.out
      have hms23_0 := NB359_350.out
      have hs24 : w17.cell? ⟨gb359, 6, none⟩ = some (.int .i64 0) := (blk_cell BK359.out 6).trans rfl
      have hfs24 := blk_frozen BK359.out 6
      have hns24_0 := NB350_359.out
      have hms24_0 := NB359_350.out
      refine skip_ (w1 := ?_) (by rfl) rfl ?_ ?_
      rotate_left
      ·go_simp
       rfl
      refine hK.out _ _ trivial (fun hHeld => ?_)
      clear hK K
      refine pu_ 12 (some 6) ?_ (bs_ 13 0) rfl rfl (any_of HT_.out (by kernel_rfl)) (fun _ _ _ h => h) (y_ (by rfl) ?_) ?_ ?_ ?_
      rotate_left
      ·intro w'
       go_simp
       with_reducible rfl
      rotate_left
      ·simp only [Act.put, s1_, s2_, s3_, i64_w, i32_w]
       rfl
      refine done_ (done_of HT_.out (by kernel_rfl)) ?_
      have hnb25 := NB359_350.out
      have hnc25 := NB350_359.out
      have hcz26_0 : w17.cell? ⟨gb359, 0, none⟩ = some (.int .i64 0) := (blk_cell BK359.out 0).trans rfl
      have hcz26_1 : w17.cell? ⟨gb359, 1, none⟩ = some (.int .i64 0) := (blk_cell BK359.out 1).trans rfl
      have hcz26_2 : w17.cell? ⟨gb359, 2, none⟩ = some (.int .i64 0) := (blk_cell BK359.out 2).trans rfl
      have hcz26_3 : w17.cell? ⟨gb359, 3, none⟩ = some (.int .i64 0) := (blk_cell BK359.out 3).trans rfl
      have hcz26_4 : w17.cell? ⟨gb359, 4, none⟩ = some (.int .i64 0) := (blk_cell BK359.out 4).trans rfl
      have hcz26_5 : w17.cell? ⟨gb359, 5, none⟩ = some (.int .i64 0) := (blk_cell BK359.out 5).trans rfl
      have hcz26_6 : w17.cell? ⟨gb359, 6, none⟩ = some (.int .i64 0) := (blk_cell BK359.out 6).trans rfl
      have hfz26_0 := blk_frozen BK359.out 0
      have hfz26_1 := blk_frozen BK359.out 1
      have hfz26_2 := blk_frozen BK359.out 2
      have hfz26_3 := blk_frozen BK359.out 3
      have hfz26_4 := blk_frozen BK359.out 4
      have hfz26_5 := blk_frozen BK359.out 5
      have hfz26_6 := blk_frozen BK359.out 6
      try go_wp2_with (first | ((with_reducible refine gate_callee (f := 77) rfl ?_); refine goesL_ (some 32) rfl rfl Tryd.func77 (by kernel_rfl) rfl #[.agg #[.int .i64 t351, .int .i64 t352, .int .i64 t353, .int .i64 t354, .int .i64 t355, .int .i64 t356, .int .i64 t357], .bool t358] rfl (by (try simp only [List.map_toArray, List.map_cons, List.map_nil]); first | done | rfl | (simp only [List.length_drop, List.length_take]; rfl)) ?_; (with_reducible refine (postbagref2_told.calls kj1 t351 t352 t353 t354 t355 t356 t357 t358 t360 t361 t362 t363 t364 t365 t366 t367 _ A13.out).mono ?_); rintro e w27 ⟨rfl, hb⟩; refine ⟨_, rfl, ?_⟩; have n0_ := Aside0.mk (blk_below (g := gb350) (o := .cells #[.int .i64 0, .int .i64 0, .int .i64 0, .int .i64 0, .int .i64 0, .int .i64 0, .int .i64 0] 23 (0, 0)) (by (with_reducible repeat (first | refine blk_drewN ?_ _ | refine blk_drew ?_ | refine blk_alloc ?_ _)); refine blk_far ?_ NB350_359.out _; (with_reducible repeat (first | refine blk_drewN ?_ _ | refine blk_drew ?_ | refine blk_alloc ?_ _)); refine blk_far ?_ NB350_359.out _; (with_reducible repeat (first | refine blk_drewN ?_ _ | refine blk_drew ?_ | refine blk_alloc ?_ _)); refine blk_far ?_ NB350_359.out _; (with_reducible repeat (first | refine blk_drewN ?_ _ | refine blk_drew ?_ | refine blk_alloc ?_ _)); refine blk_far ?_ NB350_359.out _; (with_reducible repeat (first | refine blk_drewN ?_ _ | refine blk_drew ?_ | refine blk_alloc ?_ _)); refine blk_far ?_ NB350_359.out _; (with_reducible repeat (first | refine blk_drewN ?_ _ | refine blk_drew ?_ | refine blk_alloc ?_ _)); refine blk_far ?_ NB350_359.out _; (with_reducible repeat (first | refine blk_drewN ?_ _ | refine blk_drew ?_ | refine blk_alloc ?_ _)); refine blk_far ?_ NB350_359.out _; (with_reducible repeat (first | refine blk_drewN ?_ _ | refine blk_drew ?_ | refine blk_alloc ?_ _)); exact BK350.out) hb); have n1_ := Aside0.mk (blk_below (g := gb359) (o := .cells #[.int .i64 t351, .int .i64 t352, .int .i64 t353, .int .i64 t354, .int .i64 t355, .int .i64 t356, .int .i64 t357] 23 (0, 0)) (by (with_reducible repeat (first | refine blk_drewN ?_ _ | refine blk_drew ?_ | refine blk_alloc ?_ _)); refine blk_put (cs := #[.int .i64 t351, .int .i64 t352, .int .i64 t353, .int .i64 t354, .int .i64 t355, .int .i64 t356, .int .i64 0]) ?_ 6 _ rfl; (with_reducible repeat (first | refine blk_drewN ?_ _ | refine blk_drew ?_ | refine blk_alloc ?_ _)); refine blk_put (cs := #[.int .i64 t351, .int .i64 t352, .int .i64 t353, .int .i64 t354, .int .i64 t355, .int .i64 0, .int .i64 0]) ?_ 5 _ rfl; (with_reducible repeat (first | refine blk_drewN ?_ _ | refine blk_drew ?_ | refine blk_alloc ?_ _)); refine blk_put (cs := #[.int .i64 t351, .int .i64 t352, .int .i64 t353, .int .i64 t354, .int .i64 0, .int .i64 0, .int .i64 0]) ?_ 4 _ rfl; (with_reducible repeat (first | refine blk_drewN ?_ _ | refine blk_drew ?_ | refine blk_alloc ?_ _)); refine blk_put (cs := #[.int .i64 t351, .int .i64 t352, .int .i64 t353, .int .i64 0, .int .i64 0, .int .i64 0, .int .i64 0]) ?_ 3 _ rfl; (with_reducible repeat (first | refine blk_drewN ?_ _ | refine blk_drew ?_ | refine blk_alloc ?_ _)); refine blk_put (cs := #[.int .i64 t351, .int .i64 t352, .int .i64 0, .int .i64 0, .int .i64 0, .int .i64 0, .int .i64 0]) ?_ 2 _ rfl; (with_reducible repeat (first | refine blk_drewN ?_ _ | refine blk_drew ?_ | refine blk_alloc ?_ _)); refine blk_put (cs := #[.int .i64 t351, .int .i64 0, .int .i64 0, .int .i64 0, .int .i64 0, .int .i64 0, .int .i64 0]) ?_ 1 _ rfl; (with_reducible repeat (first | refine blk_drewN ?_ _ | refine blk_drew ?_ | refine blk_alloc ?_ _)); refine blk_put (cs := #[.int .i64 0, .int .i64 0, .int .i64 0, .int .i64 0, .int .i64 0, .int .i64 0, .int .i64 0]) ?_ 0 _ rfl; (with_reducible repeat (first | refine blk_drewN ?_ _ | refine blk_drew ?_ | refine blk_alloc ?_ _)); exact BK359.out) hb); have n2_ := Aside0.mk (below_step (by repeat (first | (with_reducible first | exact HB.out | apply below_alloc | apply pw_below_drewN | apply below_drew1 | refine below_set ?_ GE350.out | refine below_set ?_ GE359.out) | exact HB.out)) hb); clear BK350; clear BK359; clear HB; have BK350 := n0_; have BK359 := n1_; have HB := n2_; clear n0_ n1_ n2_; (try clear hb); (try clear hb2); (try clear hk); (try clear hi)) | ((with_reducible refine gate_dst (N := 7) rfl ?_); refine box_event ?hg (N := 7) ?hd (cs := #[.int .i64 0, .int .i64 0, .int .i64 0, .int .i64 0, .int .i64 0, .int .i64 0, .int .i64 0]) (t := 23) ?hr ?_; (case hd => rfl); (case hg => rfl); (case hr => first | (go_simp; done) | (go_simp; rfl)); intro gb368 hg w28 hbox hb; have n0_ := Aside0.mk (blk_below (g := gb350) (o := .cells #[.int .i64 0, .int .i64 0, .int .i64 0, .int .i64 0, .int .i64 0, .int .i64 0, .int .i64 0] 23 (0, 0)) (by (with_reducible repeat (first | refine blk_drewN ?_ _ | refine blk_drew ?_ | refine blk_alloc ?_ _)); exact BK350.out) hb); have n1_ := Aside0.mk (blk_below (g := gb359) (o := .cells #[.int .i64 t351, .int .i64 t352, .int .i64 t353, .int .i64 t354, .int .i64 t355, .int .i64 t356, .int .i64 t357] 23 (0, 0)) (by (with_reducible repeat (first | refine blk_drewN ?_ _ | refine blk_drew ?_ | refine blk_alloc ?_ _)); exact BK359.out) hb); have n2_ := Aside0.mk (below_step (by repeat (first | (with_reducible first | exact HB.out | apply below_alloc | apply pw_below_drewN | apply below_drew1 | refine below_set ?_ GE350.out | refine below_set ?_ GE359.out) | exact HB.out)) hb); have n3_ := Aside0.mk (hbox); have n4_ := Aside0.mk ((by rw [hg]; exact (below_size (by repeat (first | (with_reducible first | exact HB.out | apply below_alloc | apply pw_below_drewN | apply below_drew1 | refine below_set ?_ GE350.out | refine below_set ?_ GE359.out) | exact HB.out))) : w.heap.size ≤ gb368)); have n5_ := Aside0.mk ((by rw [hg]; exact (below_size (by repeat (first | (with_reducible first | exact HB.out | apply below_alloc | apply pw_below_drewN | apply below_drew1 | refine below_set ?_ GE350.out | refine below_set ?_ GE359.out) | exact HB.out))) : w.heap.size ≤ gb368)); have n6_ := Aside0.mk ((by rw [hg]; exact Nat.ne_of_lt (blk_lt (g := gb350) (o := .cells #[.int .i64 0, .int .i64 0, .int .i64 0, .int .i64 0, .int .i64 0, .int .i64 0, .int .i64 0] 23 (0, 0)) (by (with_reducible repeat (first | refine blk_drewN ?_ _ | refine blk_drew ?_ | refine blk_alloc ?_ _)); exact BK350.out)) : gb350 ≠ gb368)); have n7_ := Aside0.mk ((by rw [hg]; exact Nat.ne_of_gt (blk_lt (g := gb350) (o := .cells #[.int .i64 0, .int .i64 0, .int .i64 0, .int .i64 0, .int .i64 0, .int .i64 0, .int .i64 0] 23 (0, 0)) (by (with_reducible repeat (first | refine blk_drewN ?_ _ | refine blk_drew ?_ | refine blk_alloc ?_ _)); exact BK350.out)) : gb368 ≠ gb350)); have n8_ := Aside0.mk ((by rw [hg]; exact Nat.ne_of_lt (blk_lt (g := gb359) (o := .cells #[.int .i64 t351, .int .i64 t352, .int .i64 t353, .int .i64 t354, .int .i64 t355, .int .i64 t356, .int .i64 t357] 23 (0, 0)) (by (with_reducible repeat (first | refine blk_drewN ?_ _ | refine blk_drew ?_ | refine blk_alloc ?_ _)); exact BK359.out)) : gb359 ≠ gb368)); have n9_ := Aside0.mk ((by rw [hg]; exact Nat.ne_of_gt (blk_lt (g := gb359) (o := .cells #[.int .i64 t351, .int .i64 t352, .int .i64 t353, .int .i64 t354, .int .i64 t355, .int .i64 t356, .int .i64 t357] 23 (0, 0)) (by (with_reducible repeat (first | refine blk_drewN ?_ _ | refine blk_drew ?_ | refine blk_alloc ?_ _)); exact BK359.out)) : gb368 ≠ gb359)); clear BK350; clear BK359; clear HB; have BK350 := n0_; have BK359 := n1_; have HB := n2_; have BK368 := n3_; have GW368 := n4_; have GE368 := n5_; have NB350_368 := n6_; have NB368_350 := n7_; have NB359_368 := n8_; have NB368_359 := n9_; clear n0_ n1_ n2_ n3_ n4_ n5_ n6_ n7_ n8_ n9_; clear hb hbox hg; have hnb29 := NB368_350.out; have hnc29 := NB350_368.out; have hnb30 := NB368_359.out; have hnc30 := NB359_368.out; have hcz31_0 : w28.cell? ⟨gb368, 0, none⟩ = some (.int .i64 0) := (blk_cell BK368.out 0).trans rfl; have hcz31_1 : w28.cell? ⟨gb368, 1, none⟩ = some (.int .i64 0) := (blk_cell BK368.out 1).trans rfl; have hcz31_2 : w28.cell? ⟨gb368, 2, none⟩ = some (.int .i64 0) := (blk_cell BK368.out 2).trans rfl; have hcz31_3 : w28.cell? ⟨gb368, 3, none⟩ = some (.int .i64 0) := (blk_cell BK368.out 3).trans rfl; have hcz31_4 : w28.cell? ⟨gb368, 4, none⟩ = some (.int .i64 0) := (blk_cell BK368.out 4).trans rfl; have hcz31_5 : w28.cell? ⟨gb368, 5, none⟩ = some (.int .i64 0) := (blk_cell BK368.out 5).trans rfl; have hcz31_6 : w28.cell? ⟨gb368, 6, none⟩ = some (.int .i64 0) := (blk_cell BK368.out 6).trans rfl; have hfz31_0 := blk_frozen BK368.out 0; have hfz31_1 := blk_frozen BK368.out 1; have hfz31_2 := blk_frozen BK368.out 2; have hfz31_3 := blk_frozen BK368.out 3; have hfz31_4 := blk_frozen BK368.out 4; have hfz31_5 := blk_frozen BK368.out 5; have hfz31_6 := blk_frozen BK368.out 6; have hcz32_0 : w28.cell? ⟨gb350, 0, none⟩ = some (.int .i64 0) := (blk_cell BK350.out 0).trans rfl; have hcz32_1 : w28.cell? ⟨gb350, 1, none⟩ = some (.int .i64 0) := (blk_cell BK350.out 1).trans rfl; have hcz32_2 : w28.cell? ⟨gb350, 2, none⟩ = some (.int .i64 0) := (blk_cell BK350.out 2).trans rfl; have hcz32_3 : w28.cell? ⟨gb350, 3, none⟩ = some (.int .i64 0) := (blk_cell BK350.out 3).trans rfl; have hcz32_4 : w28.cell? ⟨gb350, 4, none⟩ = some (.int .i64 0) := (blk_cell BK350.out 4).trans rfl; have hcz32_5 : w28.cell? ⟨gb350, 5, none⟩ = some (.int .i64 0) := (blk_cell BK350.out 5).trans rfl; have hcz32_6 : w28.cell? ⟨gb350, 6, none⟩ = some (.int .i64 0) := (blk_cell BK350.out 6).trans rfl; have hfz32_0 := blk_frozen BK350.out 0; have hfz32_1 := blk_frozen BK350.out 1; have hfz32_2 := blk_frozen BK350.out 2; have hfz32_3 := blk_frozen BK350.out 3; have hfz32_4 := blk_frozen BK350.out 4; have hfz32_5 := blk_frozen BK350.out 5; have hfz32_6 := blk_frozen BK350.out 6))
      refine bodyPost_ret (results_ct rfl _ _ gb350 23 #[.int .i64 t360, .int .i64 t361, .int .i64 t362, .int .i64 t363, .int .i64 t364, .int .i64 t365, .int .i64 t366] (0, 0) _ rfl (by (with_reducible repeat (first | refine blk_drewN ?_ _ | refine blk_drew ?_ | refine blk_alloc ?_ _)); refine blk_put (cs := #[.int .i64 t360, .int .i64 t361, .int .i64 t362, .int .i64 t363, .int .i64 t364, .int .i64 t365, .int .i64 0]) ?_ 6 _ rfl; (with_reducible repeat (first | refine blk_drewN ?_ _ | refine blk_drew ?_ | refine blk_alloc ?_ _)); refine blk_put (cs := #[.int .i64 t360, .int .i64 t361, .int .i64 t362, .int .i64 t363, .int .i64 t364, .int .i64 0, .int .i64 0]) ?_ 5 _ rfl; (with_reducible repeat (first | refine blk_drewN ?_ _ | refine blk_drew ?_ | refine blk_alloc ?_ _)); refine blk_put (cs := #[.int .i64 t360, .int .i64 t361, .int .i64 t362, .int .i64 t363, .int .i64 0, .int .i64 0, .int .i64 0]) ?_ 4 _ rfl; (with_reducible repeat (first | refine blk_drewN ?_ _ | refine blk_drew ?_ | refine blk_alloc ?_ _)); refine blk_put (cs := #[.int .i64 t360, .int .i64 t361, .int .i64 t362, .int .i64 0, .int .i64 0, .int .i64 0, .int .i64 0]) ?_ 3 _ rfl; (with_reducible repeat (first | refine blk_drewN ?_ _ | refine blk_drew ?_ | refine blk_alloc ?_ _)); refine blk_put (cs := #[.int .i64 t360, .int .i64 t361, .int .i64 0, .int .i64 0, .int .i64 0, .int .i64 0, .int .i64 0]) ?_ 2 _ rfl; (with_reducible repeat (first | refine blk_drewN ?_ _ | refine blk_drew ?_ | refine blk_alloc ?_ _)); refine blk_put (cs := #[.int .i64 t360, .int .i64 0, .int .i64 0, .int .i64 0, .int .i64 0, .int .i64 0, .int .i64 0]) ?_ 1 _ rfl; (with_reducible repeat (first | refine blk_drewN ?_ _ | refine blk_drew ?_ | refine blk_alloc ?_ _)); refine blk_put (cs := #[.int .i64 0, .int .i64 0, .int .i64 0, .int .i64 0, .int .i64 0, .int .i64 0, .int .i64 0]) ?_ 0 _ rfl; (with_reducible repeat (first | refine blk_drewN ?_ _ | refine blk_drew ?_ | refine blk_alloc ?_ _)); refine blk_far ?_ NB350_368.out _; (with_reducible repeat (first | refine blk_drewN ?_ _ | refine blk_drew ?_ | refine blk_alloc ?_ _)); refine blk_far ?_ NB350_368.out _; (with_reducible repeat (first | refine blk_drewN ?_ _ | refine blk_drew ?_ | refine blk_alloc ?_ _)); refine blk_far ?_ NB350_368.out _; (with_reducible repeat (first | refine blk_drewN ?_ _ | refine blk_drew ?_ | refine blk_alloc ?_ _)); refine blk_far ?_ NB350_368.out _; (with_reducible repeat (first | refine blk_drewN ?_ _ | refine blk_drew ?_ | refine blk_alloc ?_ _)); refine blk_far ?_ NB350_368.out _; (with_reducible repeat (first | refine blk_drewN ?_ _ | refine blk_drew ?_ | refine blk_alloc ?_ _)); refine blk_far ?_ NB350_368.out _; (with_reducible repeat (first | refine blk_drewN ?_ _ | refine blk_drew ?_ | refine blk_alloc ?_ _)); refine blk_far ?_ NB350_368.out _; (with_reducible repeat (first | refine blk_drewN ?_ _ | refine blk_drew ?_ | refine blk_alloc ?_ _)); exact BK350.out) Tryd.underlying23 rfl (by kernel_rfl)) rfl ?_
      exact ⟨by first | rfl | (simp [errW_none, errW_some] <;> rfl) | (simp only [← hji7]; first | rfl | (simp [errW_none, errW_some] <;> rfl)) | (simp [*, errW_none, errW_some] <;> rfl), by repeat (first | (with_reducible first | exact HB.out | apply below_alloc | apply pw_below_drewN | apply below_drew1 | refine below_set ?_ GE350.out | refine below_set ?_ GE359.out | refine below_set ?_ GE368.out) | exact HB.out)⟩
     ·rw [if_neg c9] at H
      exact absurd H (by simp)
    ·rw [if_neg c8] at H
     exact absurd H (by simp)
end Go.Proofs.YtjlchnmpebdggaaDoor.Mo
end
