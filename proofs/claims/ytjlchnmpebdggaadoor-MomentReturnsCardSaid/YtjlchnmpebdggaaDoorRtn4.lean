import Derived.Test.YtjlchnmpebdggaaDoorRtn1
import Derived.Test.YtjlchnmpebdggaaDoorRtn2
import Derived.Test.YtjlchnmpebdggaaDoorRtn3
import Derived.Laws.IdiomStrings
import Derived.DataShut
import Derived.Lib.Hide
section
namespace Go.Proofs.YtjlchnmpebdggaaDoor.Mo
open Go.RowKit Go.Proofs.YtjlchnmpebdggaaDoorW.PrintWords Go.Proofs.YtjlchnmpebdggaaDoorW.PrintLast Go.Proofs.YtjlchnmpebdggaaDoorW.PrintMore
attribute [local go_sem] max2_int min2_int max_two min_two max_three min_three max_four min_four   -- for this text's walks alone
set_option linter.unusedVariables false
set_option linter.unusedSimpArgs false
def moment_civil.l0 : Nat → Int → Int → Int → Option (Int × Int × Int × Int × Int × Int × Int)
 | 0, _, _, _ => none
 | k + 1, x0, x3, x6 => (moment_length.f x3 x6).bind fun t382 => (if x0 ≥ t382 then ((moment_length.f x3 x6).bind fun t383 => (moment_civil.l0 k (wrap64 (x0 - t383)) x3 (wrap64 (x6 + 1)))) else (some (x3, x6, wrap64 (x0 + 1), 0, 0, 0, 0)))
def moment_civil.f (k : Nat) (a0 : Int) : Option (Int × Int × Int × Int × Int × Int × Int) := moment_civil.l0 k (wrap64 ((Int.tmod (wrap64 ((Int.tmod a0 146097) - (wrap64 (36524 * (mn (wrap64 (Int.tdiv (Int.tmod a0 146097) 36524)) 3))))) 1461) - (wrap64 (365 * (mn (wrap64 (Int.tdiv (Int.tmod (wrap64 ((Int.tmod a0 146097) - (wrap64 (36524 * (mn (wrap64 (Int.tdiv (Int.tmod a0 146097) 36524)) 3))))) 1461) 365)) 3))))) (wrap64 ((wrap64 ((wrap64 (1 + (wrap64 (400 * (wrap64 (Int.tdiv a0 146097)))))) + (wrap64 ((wrap64 (100 * (mn (wrap64 (Int.tdiv (Int.tmod a0 146097) 36524)) 3))) + (wrap64 (4 * (wrap64 (Int.tdiv (wrap64 ((Int.tmod a0 146097) - (wrap64 (36524 * (mn (wrap64 (Int.tdiv (Int.tmod a0 146097) 36524)) 3))))) 1461)))))))) + (mn (wrap64 (Int.tdiv (Int.tmod (wrap64 ((Int.tmod a0 146097) - (wrap64 (36524 * (mn (wrap64 (Int.tdiv (Int.tmod a0 146097) 36524)) 3))))) 1461) 365)) 3))) 1
set_option maxHeartbeats 8000000 in
set_option maxRecDepth 100000 in
theorem moment_civil.calls (k : Nat) (a0 : Int) (r1 : Int) (r2 : Int) (r3 : Int) (r4 : Int) (r5 : Int) (r6 : Int) (r7 : Int) (w : World) (h : moment_civil.f k a0 = some (r1, r2, r3, r4, r5, r6, r7)) (hL_ : Laid w) :
  Calls Tryd.prog 73 #[.int .i64 a0] w fun e w' => e = .returned (.agg #[.int .i64 r1, .int .i64 r2, .int .i64 r3, .int .i64 r4, .int .i64 r5, .int .i64 r6, .int .i64 r7]) ∧ Below w.heap.size w w' := by
 have HL_ := Aside0.mk hL_
 clear hL_
 have hu23 := Tryd.underlying23
 have HB := Aside0.mk (Below.refl w.heap.size w)
 have H : (moment_civil.l0 k (wrap64 ((Int.tmod (wrap64 ((Int.tmod a0 146097) - (wrap64 (36524 * (mn (wrap64 (Int.tdiv (Int.tmod a0 146097) 36524)) 3))))) 1461) - (wrap64 (365 * (mn (wrap64 (Int.tdiv (Int.tmod (wrap64 ((Int.tmod a0 146097) - (wrap64 (36524 * (mn (wrap64 (Int.tdiv (Int.tmod a0 146097) 36524)) 3))))) 1461) 365)) 3))))) (wrap64 ((wrap64 ((wrap64 (1 + (wrap64 (400 * (wrap64 (Int.tdiv a0 146097)))))) + (wrap64 ((wrap64 (100 * (mn (wrap64 (Int.tdiv (Int.tmod a0 146097) 36524)) 3))) + (wrap64 (4 * (wrap64 (Int.tdiv (wrap64 ((Int.tmod a0 146097) - (wrap64 (36524 * (mn (wrap64 (Int.tdiv (Int.tmod a0 146097) 36524)) 3))))) 1461)))))))) + (mn (wrap64 (Int.tdiv (Int.tmod (wrap64 ((Int.tmod a0 146097) - (wrap64 (36524 * (mn (wrap64 (Int.tdiv (Int.tmod a0 146097) 36524)) 3))))) 1461) 365)) 3))) 1) = some (r1, r2, r3, r4, r5, r6, r7) := h
 clear h
 obtain ⟨ji2, hji2⟩ : ∃ j_ : Int, (mn (wrap64 (Int.tdiv (Int.tmod a0 146097) 36524)) 3) = j_ := ⟨_, rfl⟩
 replace H : (moment_civil.l0 k (wrap64 ((Int.tmod (wrap64 ((Int.tmod a0 146097) - (wrap64 (36524 * (ji2))))) 1461) - (wrap64 (365 * (mn (wrap64 (Int.tdiv (Int.tmod (wrap64 ((Int.tmod a0 146097) - (wrap64 (36524 * (ji2))))) 1461) 365)) 3))))) (wrap64 ((wrap64 ((wrap64 (1 + (wrap64 (400 * (wrap64 (Int.tdiv a0 146097)))))) + (wrap64 ((wrap64 (100 * (ji2))) + (wrap64 (4 * (wrap64 (Int.tdiv (wrap64 ((Int.tmod a0 146097) - (wrap64 (36524 * (ji2))))) 1461)))))))) + (mn (wrap64 (Int.tdiv (Int.tmod (wrap64 ((Int.tmod a0 146097) - (wrap64 (36524 * (ji2))))) 1461) 365)) 3))) 1) = some (r1, r2, r3, r4, r5, r6, r7) := by first | (rw [hji2] at H; exact H) | (simp only [hji2] at H ⊢; exact H)
 (try (have hji2h : ji2 ≤ 3 := by (rw [← hji2]; unfold mn; (repeat' split) <;> omega)))
 (try (have hji2g : ji2 ≤ 64 := by omega))
 have hji2_ : (if 3 < (wrap64 (Int.tdiv (Int.tmod a0 146097) 36524)) then 3 else (wrap64 (Int.tdiv (Int.tmod a0 146097) 36524))) = ji2 := hji2
 obtain ⟨ji3, hji3⟩ : ∃ j_ : Int, (mn (wrap64 (Int.tdiv (Int.tmod (wrap64 ((Int.tmod a0 146097) - (wrap64 (36524 * (ji2))))) 1461) 365)) 3) = j_ := ⟨_, rfl⟩
 replace H : (moment_civil.l0 k (wrap64 ((Int.tmod (wrap64 ((Int.tmod a0 146097) - (wrap64 (36524 * (ji2))))) 1461) - (wrap64 (365 * (ji3))))) (wrap64 ((wrap64 ((wrap64 (1 + (wrap64 (400 * (wrap64 (Int.tdiv a0 146097)))))) + (wrap64 ((wrap64 (100 * (ji2))) + (wrap64 (4 * (wrap64 (Int.tdiv (wrap64 ((Int.tmod a0 146097) - (wrap64 (36524 * (ji2))))) 1461)))))))) + (ji3))) 1) = some (r1, r2, r3, r4, r5, r6, r7) := by first | (rw [hji3] at H; exact H) | (simp only [hji3] at H ⊢; exact H)
 have hji3_ : (if 3 < (wrap64 (Int.tdiv (Int.tmod (wrap64 ((Int.tmod a0 146097) - (wrap64 (36524 * (ji2))))) 1461) 365)) then 3 else (wrap64 (Int.tdiv (Int.tmod (wrap64 ((Int.tmod a0 146097) - (wrap64 (36524 * (ji2))))) 1461) 365))) = ji3 := hji3
 have H' := Aside0.mk H
 clear H
 go_enter Tryd.func73, Tryd.ntmps73
 go_wp2_with (first | ((with_reducible refine gate_dst (N := 2) rfl ?_); refine box_event ?hg (N := 2) ?hd (cs := #[.int .i64 0, .int .i64 0, .int .i64 0, .int .i64 0, .int .i64 0, .int .i64 0, .int .i64 0]) (t := 23) ?hr ?_; (case hd => rfl); (case hg => rfl); (case hr => first | (go_simp; done) | (go_simp; rfl)); intro gb381 hg w4 hbox hb; have n0_ := Aside0.mk (below_step (by repeat (first | (with_reducible first | exact HB.out | apply below_alloc | apply pw_below_drewN | apply below_drew1) | exact HB.out)) hb); have n1_ := Aside0.mk (hbox); have n2_ := Aside0.mk ((by rw [hg]; exact (below_size (by repeat (first | (with_reducible first | exact HB.out | apply below_alloc | apply pw_below_drewN | apply below_drew1) | exact HB.out))) : w.heap.size ≤ gb381)); have n3_ := Aside0.mk ((by rw [hg]; exact (below_size (by repeat (first | (with_reducible first | exact HB.out | apply below_alloc | apply pw_below_drewN | apply below_drew1) | exact HB.out))) : w.heap.size ≤ gb381)); clear HB; have HB := n0_; have BK381 := n1_; have GW381 := n2_; have GE381 := n3_; clear n0_ n1_ n2_ n3_; clear hb hbox hg))
 go_loopg [0, 6] k (fun kq v0 v6 w' => ∃ (x0_1 : Int) (x6_1 : Int), v0 = .int .i64 x0_1 ∧ v6 = .int .i64 x6_1 ∧ Aside0 (moment_civil.l0 kq x0_1 (wrap64 ((wrap64 ((wrap64 (1 + (wrap64 (400 * (wrap64 (Int.tdiv a0 146097)))))) + (wrap64 ((wrap64 (100 * (ji2))) + (wrap64 (4 * (wrap64 (Int.tdiv (wrap64 ((Int.tmod a0 146097) - (wrap64 (36524 * (ji2))))) 1461)))))))) + (ji3))) x6_1 = some (r1, r2, r3, r4, r5, r6, r7)) ∧ Aside0 (kq ≤ k) ∧ Aside0 (w'.heap[gb381]? = some (.cells #[.int .i64 0, .int .i64 0, .int .i64 0, .int .i64 0, .int .i64 0, .int .i64 0, .int .i64 0] 23 (0, 0))) ∧ Aside0 (Below w.heap.size w w'))
 case atStart => exact ⟨(wrap64 ((Int.tmod (wrap64 ((Int.tmod a0 146097) - (wrap64 (36524 * (ji2))))) 1461) - (wrap64 (365 * (ji3))))), (1), (by first | rfl | (simp; done) | (simp only [← hji2, ← hji3] <;> (first | rfl | simp)) | (simp [*]; done)), (by first | rfl | (simp; done) | (simp [*]; done)), H', ⟨Nat.le_refl _⟩, ⟨by (with_reducible repeat (first | refine blk_drewN ?_ _ | refine blk_drew ?_ | refine blk_alloc ?_ _)); exact BK381.out⟩, ⟨by repeat (first | (with_reducible first | exact HB.out | apply below_alloc | apply pw_below_drewN | apply below_drew1 | refine below_set ?_ GE381.out) | exact HB.out)⟩⟩
 case round =>
  clear H'
  try clear p2
  obtain ⟨x0_1, x6_1, rfl, rfl, HA, HK1, BK381, HB⟩ := hrel
  cases gk with
  | zero => exact absurd HA.out (by simp [moment_civil.l0])
  | succ k1 =>
   have H := HA.out
   clear HA
   simp only [moment_civil.l0] at H
   replace H := Option.bind_eq_some_iff.mp H
   obtain ⟨t382, A50, H⟩ := H
   replace H : (if x0_1 ≥ t382 then ((moment_length.f (wrap64 ((wrap64 ((wrap64 (1 + (wrap64 (400 * (wrap64 (Int.tdiv a0 146097)))))) + (wrap64 ((wrap64 (100 * (ji2))) + (wrap64 (4 * (wrap64 (Int.tdiv (wrap64 ((Int.tmod a0 146097) - (wrap64 (36524 * (ji2))))) 1461)))))))) + (ji3))) x6_1).bind fun t383 => (moment_civil.l0 k1 (wrap64 (x0_1 - t383)) (wrap64 ((wrap64 ((wrap64 (1 + (wrap64 (400 * (wrap64 (Int.tdiv a0 146097)))))) + (wrap64 ((wrap64 (100 * (ji2))) + (wrap64 (4 * (wrap64 (Int.tdiv (wrap64 ((Int.tmod a0 146097) - (wrap64 (36524 * (ji2))))) 1461)))))))) + (ji3))) (wrap64 (x6_1 + 1)))) else (some ((wrap64 ((wrap64 ((wrap64 (1 + (wrap64 (400 * (wrap64 (Int.tdiv a0 146097)))))) + (wrap64 ((wrap64 (100 * (ji2))) + (wrap64 (4 * (wrap64 (Int.tdiv (wrap64 ((Int.tmod a0 146097) - (wrap64 (36524 * (ji2))))) 1461)))))))) + (ji3))), x6_1, wrap64 (x0_1 + 1), 0, 0, 0, 0))) = some (r1, r2, r3, r4, r5, r6, r7) := H
   have A5 := Aside0.mk A50
   clear A50
   by_cases c6 : x0_1 ≥ t382
   ·rw [if_pos c6] at H
    have c6b0 : decide (t382 ≤ x0_1) = true := decide_eq_true c6
    clear c6
    replace H := Option.bind_eq_some_iff.mp H
    obtain ⟨t383, A70, H⟩ := H
    replace H : (moment_civil.l0 k1 (wrap64 (x0_1 - t383)) (wrap64 ((wrap64 ((wrap64 (1 + (wrap64 (400 * (wrap64 (Int.tdiv a0 146097)))))) + (wrap64 ((wrap64 (100 * (ji2))) + (wrap64 (4 * (wrap64 (Int.tdiv (wrap64 ((Int.tmod a0 146097) - (wrap64 (36524 * (ji2))))) 1461)))))))) + (ji3))) (wrap64 (x6_1 + 1))) = some (r1, r2, r3, r4, r5, r6, r7) := H
    have A7 := Aside0.mk A70
    clear A70
    have H' := Aside0.mk H
    clear H
    go_wp2_with (first | ((with_reducible refine gate_callee (f := 47) rfl ?_); refine goesL_ (some 43) rfl rfl Tryd.func47 (by kernel_rfl) rfl #[.int .i64 (wrap64 ((wrap64 ((wrap64 (1 + (wrap64 (400 * (wrap64 (Int.tdiv a0 146097)))))) + (wrap64 ((wrap64 (100 * (ji2))) + (wrap64 (4 * (wrap64 (Int.tdiv (wrap64 ((Int.tmod a0 146097) - (wrap64 (36524 * (ji2))))) 1461)))))))) + (ji3))), .int .i64 x6_1] rfl (by (try simp only [List.map_toArray, List.map_cons, List.map_nil]); first | done | (simp only [hji2, hji3]; rfl) | rfl | (simp only [List.length_drop, List.length_take]; rfl)) ?_; (with_reducible refine (moment_length.calls (wrap64 ((wrap64 ((wrap64 (1 + (wrap64 (400 * (wrap64 (Int.tdiv a0 146097)))))) + (wrap64 ((wrap64 (100 * (ji2))) + (wrap64 (4 * (wrap64 (Int.tdiv (wrap64 ((Int.tmod a0 146097) - (wrap64 (36524 * (ji2))))) 1461)))))))) + (ji3))) x6_1 t382 _ A5.out (by first | exact laid_below HL_.out (by repeat (first | (with_reducible first | exact HB.out | apply below_alloc | apply pw_below_drewN | apply below_drew1) | exact HB.out)) | exact laid_drawn HL_.out (by repeat (first | exact Drawn0.refl _ | apply Drawn0.step)))).mono ?_); rintro e w' ⟨rfl, ⟨nd, rfl⟩⟩; refine ⟨_, rfl, ?_⟩) | ((with_reducible refine gate_callee (f := 47) rfl ?_); refine goesL_ (some 48) rfl rfl Tryd.func47 (by kernel_rfl) rfl #[.int .i64 (wrap64 ((wrap64 ((wrap64 (1 + (wrap64 (400 * (wrap64 (Int.tdiv a0 146097)))))) + (wrap64 ((wrap64 (100 * (ji2))) + (wrap64 (4 * (wrap64 (Int.tdiv (wrap64 ((Int.tmod a0 146097) - (wrap64 (36524 * (ji2))))) 1461)))))))) + (ji3))), .int .i64 x6_1] rfl (by (try simp only [List.map_toArray, List.map_cons, List.map_nil]); first | done | (simp only [hji2, hji3]; rfl) | rfl | (simp only [List.length_drop, List.length_take]; rfl)) ?_; (with_reducible refine (moment_length.calls (wrap64 ((wrap64 ((wrap64 (1 + (wrap64 (400 * (wrap64 (Int.tdiv a0 146097)))))) + (wrap64 ((wrap64 (100 * (ji2))) + (wrap64 (4 * (wrap64 (Int.tdiv (wrap64 ((Int.tmod a0 146097) - (wrap64 (36524 * (ji2))))) 1461)))))))) + (ji3))) x6_1 t383 _ A7.out (by first | exact laid_below HL_.out (by repeat (first | (with_reducible first | exact HB.out | apply below_alloc | apply pw_below_drewN | apply below_drew1) | exact HB.out)) | exact laid_drawn HL_.out (by repeat (first | exact Drawn0.refl _ | apply Drawn0.step)))).mono ?_); rintro e w' ⟨rfl, ⟨nd, rfl⟩⟩; refine ⟨_, rfl, ?_⟩))
    go_roundg k1
    case measure => have := HK1.out; omega
    case rel => exact ⟨(wrap64 (x0_1 - t383)), (wrap64 (x6_1 + 1)), (by first | rfl | (simp; done) | (simp [*]; done)), (by first | rfl | (simp; done) | (simp [*]; done)), H', ⟨by have := HK1.out; omega⟩, ⟨by (with_reducible repeat (first | refine blk_drewN ?_ _ | refine blk_drew ?_ | refine blk_alloc ?_ _)); exact BK381.out⟩, ⟨by repeat (first | (with_reducible first | exact HB.out | apply below_alloc | apply pw_below_drewN | apply below_drew1 | refine below_set ?_ GE381.out) | exact HB.out)⟩⟩
   ·rw [if_neg c6] at H
    have c6b0 : decide (t382 ≤ x0_1) = false := decide_eq_false c6
    clear c6
    simp only [Option.some.injEq, Prod.mk.injEq] at H
    obtain ⟨rfl, rfl, rfl, rfl, rfl, rfl, rfl⟩ := H
    go_wp2_with (first | ((with_reducible refine gate_callee (f := 47) rfl ?_); refine goesL_ (some 43) rfl rfl Tryd.func47 (by kernel_rfl) rfl #[.int .i64 (wrap64 ((wrap64 ((wrap64 (1 + (wrap64 (400 * (wrap64 (Int.tdiv a0 146097)))))) + (wrap64 ((wrap64 (100 * (ji2))) + (wrap64 (4 * (wrap64 (Int.tdiv (wrap64 ((Int.tmod a0 146097) - (wrap64 (36524 * (ji2))))) 1461)))))))) + (ji3))), .int .i64 x6_1] rfl (by (try simp only [List.map_toArray, List.map_cons, List.map_nil]); first | done | (simp only [hji2, hji3]; rfl) | rfl | (simp only [List.length_drop, List.length_take]; rfl)) ?_; (with_reducible refine (moment_length.calls (wrap64 ((wrap64 ((wrap64 (1 + (wrap64 (400 * (wrap64 (Int.tdiv a0 146097)))))) + (wrap64 ((wrap64 (100 * (ji2))) + (wrap64 (4 * (wrap64 (Int.tdiv (wrap64 ((Int.tmod a0 146097) - (wrap64 (36524 * (ji2))))) 1461)))))))) + (ji3))) x6_1 t382 _ A5.out (by first | exact laid_below HL_.out (by repeat (first | (with_reducible first | exact HB.out | apply below_alloc | apply pw_below_drewN | apply below_drew1) | exact HB.out)) | exact laid_drawn HL_.out (by repeat (first | exact Drawn0.refl _ | apply Drawn0.step)))).mono ?_); rintro e w' ⟨rfl, ⟨nd, rfl⟩⟩; refine ⟨_, rfl, ?_⟩; (try (rw [drewN_self wr]; generalize hq_ : World.drewN wr _ = wr; have n0_ : Aside0 (wr.heap[gb381]? = some (.cells #[.int .i64 0, .int .i64 0, .int .i64 0, .int .i64 0, .int .i64 0, .int .i64 0, .int .i64 0] 23 (0, 0))) := ⟨by rw [← hq_]; exact (by (with_reducible repeat (first | refine blk_drewN ?_ _ | refine blk_drew ?_ | refine blk_alloc ?_ _)); exact BK381.out)⟩; have n1_ : Aside0 (Below w.heap.size w wr) := ⟨by rw [← hq_]; exact (by repeat (first | (with_reducible first | exact HB.out | apply below_alloc | apply pw_below_drewN | apply below_drew1 | refine below_set ?_ GE381.out) | exact HB.out))⟩; clear BK381 HB hq_; have BK381 := n0_; have HB := n1_; clear n0_ n1_)); have hcz8_0 : wr.cell? ⟨gb381, 0, none⟩ = some (.int .i64 0) := (blk_cell BK381.out 0).trans rfl; have hcz8_1 : wr.cell? ⟨gb381, 1, none⟩ = some (.int .i64 0) := (blk_cell BK381.out 1).trans rfl; have hcz8_2 : wr.cell? ⟨gb381, 2, none⟩ = some (.int .i64 0) := (blk_cell BK381.out 2).trans rfl; have hcz8_3 : wr.cell? ⟨gb381, 3, none⟩ = some (.int .i64 0) := (blk_cell BK381.out 3).trans rfl; have hcz8_4 : wr.cell? ⟨gb381, 4, none⟩ = some (.int .i64 0) := (blk_cell BK381.out 4).trans rfl; have hcz8_5 : wr.cell? ⟨gb381, 5, none⟩ = some (.int .i64 0) := (blk_cell BK381.out 5).trans rfl; have hcz8_6 : wr.cell? ⟨gb381, 6, none⟩ = some (.int .i64 0) := (blk_cell BK381.out 6).trans rfl; have hfz8_0 := blk_frozen BK381.out 0; have hfz8_1 := blk_frozen BK381.out 1; have hfz8_2 := blk_frozen BK381.out 2; have hfz8_3 := blk_frozen BK381.out 3; have hfz8_4 := blk_frozen BK381.out 4; have hfz8_5 := blk_frozen BK381.out 5; have hfz8_6 := blk_frozen BK381.out 6))
    refine bodyPost_ret (results_cell_row rfl _ _ gb381 23 #[.int .i64 (wrap64 ((wrap64 ((wrap64 (1 + (wrap64 (400 * (wrap64 (Int.tdiv a0 146097)))))) + (wrap64 ((wrap64 (100 * (ji2))) + (wrap64 (4 * (wrap64 (Int.tdiv (wrap64 ((Int.tmod a0 146097) - (wrap64 (36524 * (ji2))))) 1461)))))))) + (ji3))), .int .i64 x6_1, .int .i64 (wrap64 (x0_1 + 1)), .int .i64 0, .int .i64 0, .int .i64 0, .int .i64 0] (0, 0) _ rfl (by (with_reducible repeat (first | refine blk_drewN ?_ _ | refine blk_drew ?_ | refine blk_alloc ?_ _)); refine blk_put (cs := #[.int .i64 (wrap64 ((wrap64 ((wrap64 (1 + (wrap64 (400 * (wrap64 (Int.tdiv a0 146097)))))) + (wrap64 ((wrap64 (100 * (ji2))) + (wrap64 (4 * (wrap64 (Int.tdiv (wrap64 ((Int.tmod a0 146097) - (wrap64 (36524 * (ji2))))) 1461)))))))) + (ji3))), .int .i64 x6_1, .int .i64 (wrap64 (x0_1 + 1)), .int .i64 0, .int .i64 0, .int .i64 0, .int .i64 0]) ?_ 6 _ rfl; (with_reducible repeat (first | refine blk_drewN ?_ _ | refine blk_drew ?_ | refine blk_alloc ?_ _)); refine blk_put (cs := #[.int .i64 (wrap64 ((wrap64 ((wrap64 (1 + (wrap64 (400 * (wrap64 (Int.tdiv a0 146097)))))) + (wrap64 ((wrap64 (100 * (ji2))) + (wrap64 (4 * (wrap64 (Int.tdiv (wrap64 ((Int.tmod a0 146097) - (wrap64 (36524 * (ji2))))) 1461)))))))) + (ji3))), .int .i64 x6_1, .int .i64 (wrap64 (x0_1 + 1)), .int .i64 0, .int .i64 0, .int .i64 0, .int .i64 0]) ?_ 5 _ rfl; (with_reducible repeat (first | refine blk_drewN ?_ _ | refine blk_drew ?_ | refine blk_alloc ?_ _)); refine blk_put (cs := #[.int .i64 (wrap64 ((wrap64 ((wrap64 (1 + (wrap64 (400 * (wrap64 (Int.tdiv a0 146097)))))) + (wrap64 ((wrap64 (100 * (ji2))) + (wrap64 (4 * (wrap64 (Int.tdiv (wrap64 ((Int.tmod a0 146097) - (wrap64 (36524 * (ji2))))) 1461)))))))) + (ji3))), .int .i64 x6_1, .int .i64 (wrap64 (x0_1 + 1)), .int .i64 0, .int .i64 0, .int .i64 0, .int .i64 0]) ?_ 4 _ rfl; (with_reducible repeat (first | refine blk_drewN ?_ _ | refine blk_drew ?_ | refine blk_alloc ?_ _)); refine blk_put (cs := #[.int .i64 (wrap64 ((wrap64 ((wrap64 (1 + (wrap64 (400 * (wrap64 (Int.tdiv a0 146097)))))) + (wrap64 ((wrap64 (100 * (ji2))) + (wrap64 (4 * (wrap64 (Int.tdiv (wrap64 ((Int.tmod a0 146097) - (wrap64 (36524 * (ji2))))) 1461)))))))) + (ji3))), .int .i64 x6_1, .int .i64 (wrap64 (x0_1 + 1)), .int .i64 0, .int .i64 0, .int .i64 0, .int .i64 0]) ?_ 3 _ rfl; (with_reducible repeat (first | refine blk_drewN ?_ _ | refine blk_drew ?_ | refine blk_alloc ?_ _)); refine blk_put (cs := #[.int .i64 (wrap64 ((wrap64 ((wrap64 (1 + (wrap64 (400 * (wrap64 (Int.tdiv a0 146097)))))) + (wrap64 ((wrap64 (100 * (ji2))) + (wrap64 (4 * (wrap64 (Int.tdiv (wrap64 ((Int.tmod a0 146097) - (wrap64 (36524 * (ji2))))) 1461)))))))) + (ji3))), .int .i64 x6_1, .int .i64 0, .int .i64 0, .int .i64 0, .int .i64 0, .int .i64 0]) ?_ 2 _ rfl; (with_reducible repeat (first | refine blk_drewN ?_ _ | refine blk_drew ?_ | refine blk_alloc ?_ _)); refine blk_put (cs := #[.int .i64 (wrap64 ((wrap64 ((wrap64 (1 + (wrap64 (400 * (wrap64 (Int.tdiv a0 146097)))))) + (wrap64 ((wrap64 (100 * (ji2))) + (wrap64 (4 * (wrap64 (Int.tdiv (wrap64 ((Int.tmod a0 146097) - (wrap64 (36524 * (ji2))))) 1461)))))))) + (ji3))), .int .i64 0, .int .i64 0, .int .i64 0, .int .i64 0, .int .i64 0, .int .i64 0]) ?_ 1 _ rfl; (with_reducible repeat (first | refine blk_drewN ?_ _ | refine blk_drew ?_ | refine blk_alloc ?_ _)); refine blk_put (cs := #[.int .i64 0, .int .i64 0, .int .i64 0, .int .i64 0, .int .i64 0, .int .i64 0, .int .i64 0]) ?_ 0 _ rfl; (with_reducible repeat (first | refine blk_drewN ?_ _ | refine blk_drew ?_ | refine blk_alloc ?_ _)); exact BK381.out) Tryd.underlying23 rfl (by kernel_rfl)) rfl ?_
    exact ⟨by first | rfl | (simp [errW_none, errW_some] <;> rfl) | (simp only [← hji2, ← hji3]; first | rfl | (simp [errW_none, errW_some] <;> rfl)) | (simp [*, errW_none, errW_some] <;> rfl), by repeat (first | (with_reducible first | exact HB.out | apply below_alloc | apply pw_below_drewN | apply below_drew1 | refine below_set ?_ GE381.out) | exact HB.out)⟩
attribute [local irreducible] moment_civil.f moment_civil.l0 moment_floor.f
mutual
def moment_At.j0 : Nat → Int → Int → Bool → Option (Int × Int × Int × Int × Int × Int × Int × Int)
 | 0, _, _, _ => none
 | k + 1, x0, x1, x14 => if x14 = true then (some (0, 0, 0, 0, 0, 0, 0, 1)) else (if x0 < (-345600000000) then (moment_At.j1 k x0 x1 true) else (moment_At.j1 k x0 x1 (decide (x0 > 345600000000))))
def moment_At.j1 : Nat → Int → Int → Bool → Option (Int × Int × Int × Int × Int × Int × Int × Int)
 | 0, _, _, _ => none
 | k + 1, x0, x1, x21 => if x21 = true then (some (0, 0, 0, 0, 0, 0, 0, 22)) else ((moment_floor.f (wrap64 (x0 + (wrap64 (60 * x1)))) 86400).bind fun bt385 => (if bt385.1 < (-719162) then (some (0, 0, 0, 0, 0, 0, 0, 22)) else (if bt385.1 > 2932896 then (some (0, 0, 0, 0, 0, 0, 0, 22)) else ((moment_civil.f k (wrap64 (bt385.1 + 719162))).bind fun bt387 => (some (bt387.1, bt387.2.1, bt387.2.2.1, wrap64 (Int.tdiv bt385.2 3600), Int.tmod (wrap64 (Int.tdiv bt385.2 60)) 60, Int.tmod bt385.2 60, x1, 0))))))
end
def moment_At.f (k : Nat) (a0 : Int) (a1 : Int) : Option (Int × Int × Int × Int × Int × Int × Int × Int) := if a1 < (-1439) then (moment_At.j0 k a0 a1 true) else (moment_At.j0 k a0 a1 (decide (a1 > 1439)))
set_option maxHeartbeats 8000000 in
set_option maxRecDepth 100000 in
theorem moment_At.calls (k : Nat) (a0 : Int) (a1 : Int) (r1 : Int) (r2 : Int) (r3 : Int) (r4 : Int) (r5 : Int) (r6 : Int) (r7 : Int) (r8 : Int) (w : World) (h : moment_At.f k a0 a1 = some (r1, r2, r3, r4, r5, r6, r7, r8)) (hL_ : Laid w) :
  Calls Tryd.prog 36 #[.int .i64 a0, .int .i64 a1] w fun e w' => e = .returned (.tuple #[.agg #[.int .i64 r1, .int .i64 r2, .int .i64 r3, .int .i64 r4, .int .i64 r5, .int .i64 r6, .int .i64 r7], .int .i64 r8]) ∧ Below w.heap.size w w' := by
 have HL_ := Aside0.mk hL_
 clear hL_
 have hu23 := Tryd.underlying23
 have HB := Aside0.mk (Below.refl w.heap.size w)
 have H : (if a1 < (-1439) then (moment_At.j0 k a0 a1 true) else (moment_At.j0 k a0 a1 (decide (a1 > 1439)))) = some (r1, r2, r3, r4, r5, r6, r7, r8) := h
 clear h
 have HC3 := Aside0.mk H
 clear H
 go_enter Tryd.func36, Tryd.ntmps36
 go_upto_region 1 with (first | ((with_reducible refine gate_dst (N := 4) rfl ?_); refine box_event ?hg (N := 4) ?hd (cs := #[.int .i64 0, .int .i64 0, .int .i64 0, .int .i64 0, .int .i64 0, .int .i64 0, .int .i64 0]) (t := 23) ?hr ?_; (case hd => rfl); (case hg => rfl); (case hr => first | (go_simp; done) | (go_simp; rfl)); intro gb384 hg w4 hbox hb; have n0_ := Aside0.mk (below_step (by repeat (first | (with_reducible first | exact HB.out | apply below_alloc | apply pw_below_drewN | apply below_drew1) | exact HB.out)) hb); have n1_ := Aside0.mk (hbox); have n2_ := Aside0.mk ((by rw [hg]; exact (below_size (by repeat (first | (with_reducible first | exact HB.out | apply below_alloc | apply pw_below_drewN | apply below_drew1) | exact HB.out))) : w.heap.size ≤ gb384)); have n3_ := Aside0.mk ((by rw [hg]; exact (below_size (by repeat (first | (with_reducible first | exact HB.out | apply below_alloc | apply pw_below_drewN | apply below_drew1) | exact HB.out))) : w.heap.size ≤ gb384)); clear HB; have HB := n0_; have BK384 := n1_; have GW384 := n2_; have GE384 := n3_; clear n0_ n1_ n2_ n3_; clear hb hbox hg))
 (try simp only [Act.put, s1_, s2_, s3_])
 go_cut [14] (fun v14 wc => ∃ (kq : Nat) (x14_2 : Bool), v14 = .bool x14_2 ∧ Aside0 (moment_At.j0 kq a0 a1 x14_2 = some (r1, r2, r3, r4, r5, r6, r7, r8)) ∧ Aside0 (kq ≤ k) ∧ Aside0 (wc.heap[gb384]? = some (.cells #[.int .i64 0, .int .i64 0, .int .i64 0, .int .i64 0, .int .i64 0, .int .i64 0, .int .i64 0] 23 (0, 0))) ∧ Aside0 (Below w.heap.size w wc))
 case first =>
  have H := HC3.out
  clear HC3
  by_cases c5 : a1 < (-1439)
  ·rw [if_pos c5] at H
   have c5b0 : decide (a1 < (-1439)) = true := decide_eq_true c5
   clear c5
   (first | rw [c5b0] | (simp only [i64_w, i32_w]; rw [c5b0]) | skip)
   have H' := Aside0.mk H
   clear H
   go_wp2
   go_meet
   case rel => exact ⟨_, (true), (by first | rfl | (simp; done) | (simp [*]; done)), H', ⟨by first | omega | exact Nat.le_refl _⟩, ⟨by (with_reducible repeat (first | refine blk_drewN ?_ _ | refine blk_drew ?_ | refine blk_alloc ?_ _)); exact BK384.out⟩, ⟨by repeat (first | (with_reducible first | exact HB.out | apply below_alloc | apply pw_below_drewN | apply below_drew1 | refine below_set ?_ GE384.out) | exact HB.out)⟩⟩
  ·rw [if_neg c5] at H
   have c5b0 : decide (a1 < (-1439)) = false := decide_eq_false c5
   clear c5
   (first | rw [c5b0] | (simp only [i64_w, i32_w]; rw [c5b0]) | skip)
   have H' := Aside0.mk H
   clear H
   go_wp2
   go_meet
   case rel => exact ⟨_, (decide (a1 > 1439)), (by first | rfl | (simp; done) | (simp [*]; done)), H', ⟨by first | omega | exact Nat.le_refl _⟩, ⟨by (with_reducible repeat (first | refine blk_drewN ?_ _ | refine blk_drew ?_ | refine blk_alloc ?_ _)); exact BK384.out⟩, ⟨by repeat (first | (with_reducible first | exact HB.out | apply below_alloc | apply pw_below_drewN | apply below_drew1 | refine below_set ?_ GE384.out) | exact HB.out)⟩⟩
 case rest =>
  clear HC3
  try clear p2
  try clear c3
  try clear c5
  try clear c5b0
  obtain ⟨kq, x14_2, rfl, HA, HJ2, BK384, HB⟩ := hcut
  cases kq with
  | zero => exact absurd HA.out (by simp [moment_At.j0])
  | succ kj2 =>
   have H := HA.out
   clear HA
   simp only [moment_At.j0] at H
   by_cases c6 : x14_2 = true
   ·subst c6
    have H1 : (some (0, 0, 0, 0, 0, 0, 0, 1)) = some (r1, r2, r3, r4, r5, r6, r7, r8) := by rw [if_pos rfl] at H; exact H
    clear H
    have H := H1
    clear H1
    simp only [Option.some.injEq, Prod.mk.injEq] at H
    obtain ⟨rfl, rfl, rfl, rfl, rfl, rfl, rfl, rfl⟩ := H
    have hcz7_0 : wc.cell? ⟨gb384, 0, none⟩ = some (.int .i64 0) := (blk_cell BK384.out 0).trans rfl
    have hcz7_1 : wc.cell? ⟨gb384, 1, none⟩ = some (.int .i64 0) := (blk_cell BK384.out 1).trans rfl
    have hcz7_2 : wc.cell? ⟨gb384, 2, none⟩ = some (.int .i64 0) := (blk_cell BK384.out 2).trans rfl
    have hcz7_3 : wc.cell? ⟨gb384, 3, none⟩ = some (.int .i64 0) := (blk_cell BK384.out 3).trans rfl
    have hcz7_4 : wc.cell? ⟨gb384, 4, none⟩ = some (.int .i64 0) := (blk_cell BK384.out 4).trans rfl
    have hcz7_5 : wc.cell? ⟨gb384, 5, none⟩ = some (.int .i64 0) := (blk_cell BK384.out 5).trans rfl
    have hcz7_6 : wc.cell? ⟨gb384, 6, none⟩ = some (.int .i64 0) := (blk_cell BK384.out 6).trans rfl
    have hfz7_0 := blk_frozen BK384.out 0
    have hfz7_1 := blk_frozen BK384.out 1
    have hfz7_2 := blk_frozen BK384.out 2
    have hfz7_3 := blk_frozen BK384.out 3
    have hfz7_4 := blk_frozen BK384.out 4
    have hfz7_5 := blk_frozen BK384.out 5
    have hfz7_6 := blk_frozen BK384.out 6
    go_wp2
    refine bodyPost_ret (results_ct rfl _ _ gb384 23 #[.int .i64 0, .int .i64 0, .int .i64 0, .int .i64 0, .int .i64 0, .int .i64 0, .int .i64 0] (0, 0) _ rfl (by (with_reducible repeat (first | refine blk_drewN ?_ _ | refine blk_drew ?_ | refine blk_alloc ?_ _)); refine blk_put (cs := #[.int .i64 0, .int .i64 0, .int .i64 0, .int .i64 0, .int .i64 0, .int .i64 0, .int .i64 0]) ?_ 6 _ rfl; (with_reducible repeat (first | refine blk_drewN ?_ _ | refine blk_drew ?_ | refine blk_alloc ?_ _)); refine blk_put (cs := #[.int .i64 0, .int .i64 0, .int .i64 0, .int .i64 0, .int .i64 0, .int .i64 0, .int .i64 0]) ?_ 5 _ rfl; (with_reducible repeat (first | refine blk_drewN ?_ _ | refine blk_drew ?_ | refine blk_alloc ?_ _)); refine blk_put (cs := #[.int .i64 0, .int .i64 0, .int .i64 0, .int .i64 0, .int .i64 0, .int .i64 0, .int .i64 0]) ?_ 4 _ rfl; (with_reducible repeat (first | refine blk_drewN ?_ _ | refine blk_drew ?_ | refine blk_alloc ?_ _)); refine blk_put (cs := #[.int .i64 0, .int .i64 0, .int .i64 0, .int .i64 0, .int .i64 0, .int .i64 0, .int .i64 0]) ?_ 3 _ rfl; (with_reducible repeat (first | refine blk_drewN ?_ _ | refine blk_drew ?_ | refine blk_alloc ?_ _)); refine blk_put (cs := #[.int .i64 0, .int .i64 0, .int .i64 0, .int .i64 0, .int .i64 0, .int .i64 0, .int .i64 0]) ?_ 2 _ rfl; (with_reducible repeat (first | refine blk_drewN ?_ _ | refine blk_drew ?_ | refine blk_alloc ?_ _)); refine blk_put (cs := #[.int .i64 0, .int .i64 0, .int .i64 0, .int .i64 0, .int .i64 0, .int .i64 0, .int .i64 0]) ?_ 1 _ rfl; (with_reducible repeat (first | refine blk_drewN ?_ _ | refine blk_drew ?_ | refine blk_alloc ?_ _)); refine blk_put (cs := #[.int .i64 0, .int .i64 0, .int .i64 0, .int .i64 0, .int .i64 0, .int .i64 0, .int .i64 0]) ?_ 0 _ rfl; (with_reducible repeat (first | refine blk_drewN ?_ _ | refine blk_drew ?_ | refine blk_alloc ?_ _)); exact BK384.out) Tryd.underlying23 rfl (by kernel_rfl)) rfl ?_
    exact ⟨by first | rfl | (simp [errW_none, errW_some] <;> rfl) | (simp [*, errW_none, errW_some] <;> rfl), by repeat (first | (with_reducible first | exact HB.out | apply below_alloc | apply pw_below_drewN | apply below_drew1 | refine below_set ?_ GE384.out) | exact HB.out)⟩
   ·replace c6 := Bool.eq_false_iff.mpr c6
    subst c6
    have H1 : (if a0 < (-345600000000) then (moment_At.j1 kj2 a0 a1 true) else (moment_At.j1 kj2 a0 a1 (decide (a0 > 345600000000)))) = some (r1, r2, r3, r4, r5, r6, r7, r8) := by rw [if_neg (show ¬ (false = true) by decide)] at H; exact H
    clear H
    have H := H1
    clear H1
    have HC8 := Aside0.mk H
    clear H
    go_upto_region 3 with (fail)
    go_cut [21] (fun v21 wc => ∃ (kq : Nat) (x21_7 : Bool), v21 = .bool x21_7 ∧ Aside0 (moment_At.j1 kq a0 a1 x21_7 = some (r1, r2, r3, r4, r5, r6, r7, r8)) ∧ Aside0 (kq ≤ kj2) ∧ Aside0 (wc.heap[gb384]? = some (.cells #[.int .i64 0, .int .i64 0, .int .i64 0, .int .i64 0, .int .i64 0, .int .i64 0, .int .i64 0] 23 (0, 0))) ∧ Aside0 (Below w.heap.size w wc))
    case first =>
     have H := HC8.out
     clear HC8
     by_cases c9 : a0 < (-345600000000)
     ·rw [if_pos c9] at H
      have c9b0 : decide (a0 < (-345600000000)) = true := decide_eq_true c9
      clear c9
      (first | rw [c9b0] | (simp only [i64_w, i32_w]; rw [c9b0]) | skip)
      have H' := Aside0.mk H
      clear H
      go_wp2
      go_meet
      case rel => exact ⟨_, (true), (by first | rfl | (simp; done) | (simp [*]; done)), H', ⟨by have := HJ2.out; first | omega | exact Nat.le_refl _⟩, ⟨by (with_reducible repeat (first | refine blk_drewN ?_ _ | refine blk_drew ?_ | refine blk_alloc ?_ _)); exact BK384.out⟩, ⟨by repeat (first | (with_reducible first | exact HB.out | apply below_alloc | apply pw_below_drewN | apply below_drew1 | refine below_set ?_ GE384.out) | exact HB.out)⟩⟩
     ·rw [if_neg c9] at H
      have c9b0 : decide (a0 < (-345600000000)) = false := decide_eq_false c9
      clear c9
      (first | rw [c9b0] | (simp only [i64_w, i32_w]; rw [c9b0]) | skip)
      have H' := Aside0.mk H
      clear H
      go_wp2
      go_meet
      case rel => exact ⟨_, (decide (a0 > 345600000000)), (by first | rfl | (simp; done) | (simp [*]; done)), H', ⟨by have := HJ2.out; first | omega | exact Nat.le_refl _⟩, ⟨by (with_reducible repeat (first | refine blk_drewN ?_ _ | refine blk_drew ?_ | refine blk_alloc ?_ _)); exact BK384.out⟩, ⟨by repeat (first | (with_reducible first | exact HB.out | apply below_alloc | apply pw_below_drewN | apply below_drew1 | refine below_set ?_ GE384.out) | exact HB.out)⟩⟩
    case rest =>
     clear HC8
     try clear p2
     try clear c3
     try clear c5
     try clear c5b0
     try clear c6
     try clear c9
     try clear c9b0
     try clear hcz7_0
     try clear hcz7_1
     try clear hcz7_2
     try clear hcz7_3
     try clear hcz7_4
     try clear hcz7_5
     try clear hcz7_6
     try clear hfz7_0
     try clear hfz7_1
     try clear hfz7_2
     try clear hfz7_3
     try clear hfz7_4
     try clear hfz7_5
     try clear hfz7_6
     try clear p2
     obtain ⟨kq, x21_7, rfl, HA, HJ7, BK384, HB⟩ := hcut
     cases kq with
     | zero => exact absurd HA.out (by simp [moment_At.j1])
     | succ kj7 =>
      have H := HA.out
      clear HA
      simp only [moment_At.j1] at H
      by_cases c10 : x21_7 = true
      ·subst c10
       have H1 : (some (0, 0, 0, 0, 0, 0, 0, 22)) = some (r1, r2, r3, r4, r5, r6, r7, r8) := by rw [if_pos rfl] at H; exact H
       clear H
       have H := H1
       clear H1
       simp only [Option.some.injEq, Prod.mk.injEq] at H
       obtain ⟨rfl, rfl, rfl, rfl, rfl, rfl, rfl, rfl⟩ := H
       have hcz11_0 : wc.cell? ⟨gb384, 0, none⟩ = some (.int .i64 0) := (blk_cell BK384.out 0).trans rfl
       have hcz11_1 : wc.cell? ⟨gb384, 1, none⟩ = some (.int .i64 0) := (blk_cell BK384.out 1).trans rfl
       have hcz11_2 : wc.cell? ⟨gb384, 2, none⟩ = some (.int .i64 0) := (blk_cell BK384.out 2).trans rfl
       have hcz11_3 : wc.cell? ⟨gb384, 3, none⟩ = some (.int .i64 0) := (blk_cell BK384.out 3).trans rfl
       have hcz11_4 : wc.cell? ⟨gb384, 4, none⟩ = some (.int .i64 0) := (blk_cell BK384.out 4).trans rfl
       have hcz11_5 : wc.cell? ⟨gb384, 5, none⟩ = some (.int .i64 0) := (blk_cell BK384.out 5).trans rfl
       have hcz11_6 : wc.cell? ⟨gb384, 6, none⟩ = some (.int .i64 0) := (blk_cell BK384.out 6).trans rfl
       have hfz11_0 := blk_frozen BK384.out 0
       have hfz11_1 := blk_frozen BK384.out 1
       have hfz11_2 := blk_frozen BK384.out 2
       have hfz11_3 := blk_frozen BK384.out 3
       have hfz11_4 := blk_frozen BK384.out 4
       have hfz11_5 := blk_frozen BK384.out 5
       have hfz11_6 := blk_frozen BK384.out 6
       go_wp2
       refine bodyPost_ret (results_ct rfl _ _ gb384 23 #[.int .i64 0, .int .i64 0, .int .i64 0, .int .i64 0, .int .i64 0, .int .i64 0, .int .i64 0] (0, 0) _ rfl (by (with_reducible repeat (first | refine blk_drewN ?_ _ | refine blk_drew ?_ | refine blk_alloc ?_ _)); refine blk_put (cs := #[.int .i64 0, .int .i64 0, .int .i64 0, .int .i64 0, .int .i64 0, .int .i64 0, .int .i64 0]) ?_ 6 _ rfl; (with_reducible repeat (first | refine blk_drewN ?_ _ | refine blk_drew ?_ | refine blk_alloc ?_ _)); refine blk_put (cs := #[.int .i64 0, .int .i64 0, .int .i64 0, .int .i64 0, .int .i64 0, .int .i64 0, .int .i64 0]) ?_ 5 _ rfl; (with_reducible repeat (first | refine blk_drewN ?_ _ | refine blk_drew ?_ | refine blk_alloc ?_ _)); refine blk_put (cs := #[.int .i64 0, .int .i64 0, .int .i64 0, .int .i64 0, .int .i64 0, .int .i64 0, .int .i64 0]) ?_ 4 _ rfl; (with_reducible repeat (first | refine blk_drewN ?_ _ | refine blk_drew ?_ | refine blk_alloc ?_ _)); refine blk_put (cs := #[.int .i64 0, .int .i64 0, .int .i64 0, .int .i64 0, .int .i64 0, .int .i64 0, .int .i64 0]) ?_ 3 _ rfl; (with_reducible repeat (first | refine blk_drewN ?_ _ | refine blk_drew ?_ | refine blk_alloc ?_ _)); refine blk_put (cs := #[.int .i64 0, .int .i64 0, .int .i64 0, .int .i64 0, .int .i64 0, .int .i64 0, .int .i64 0]) ?_ 2 _ rfl; (with_reducible repeat (first | refine blk_drewN ?_ _ | refine blk_drew ?_ | refine blk_alloc ?_ _)); refine blk_put (cs := #[.int .i64 0, .int .i64 0, .int .i64 0, .int .i64 0, .int .i64 0, .int .i64 0, .int .i64 0]) ?_ 1 _ rfl; (with_reducible repeat (first | refine blk_drewN ?_ _ | refine blk_drew ?_ | refine blk_alloc ?_ _)); refine blk_put (cs := #[.int .i64 0, .int .i64 0, .int .i64 0, .int .i64 0, .int .i64 0, .int .i64 0, .int .i64 0]) ?_ 0 _ rfl; (with_reducible repeat (first | refine blk_drewN ?_ _ | refine blk_drew ?_ | refine blk_alloc ?_ _)); exact BK384.out) Tryd.underlying23 rfl (by kernel_rfl)) rfl ?_
       exact ⟨by first | rfl | (simp [errW_none, errW_some] <;> rfl) | (simp [*, errW_none, errW_some] <;> rfl), by repeat (first | (with_reducible first | exact HB.out | apply below_alloc | apply pw_below_drewN | apply below_drew1 | refine below_set ?_ GE384.out) | exact HB.out)⟩
      ·replace c10 := Bool.eq_false_iff.mpr c10
       subst c10
       have H1 : ((moment_floor.f (wrap64 (a0 + (wrap64 (60 * a1)))) 86400).bind fun bt385 => (if bt385.1 < (-719162) then (some (0, 0, 0, 0, 0, 0, 0, 22)) else (if bt385.1 > 2932896 then (some (0, 0, 0, 0, 0, 0, 0, 22)) else ((moment_civil.f kj7 (wrap64 (bt385.1 + 719162))).bind fun bt387 => (some (bt387.1, bt387.2.1, bt387.2.2.1, wrap64 (Int.tdiv bt385.2 3600), Int.tmod (wrap64 (Int.tdiv bt385.2 60)) 60, Int.tmod bt385.2 60, a1, 0)))))) = some (r1, r2, r3, r4, r5, r6, r7, r8) := by rw [if_neg (show ¬ (false = true) by decide)] at H; exact H
       clear H
       have H := H1
       clear H1
       replace H := Option.bind_eq_some_iff.mp H
       obtain ⟨⟨t385, t386⟩, A120, H⟩ := H
       replace H : (if t385 < (-719162) then (some (0, 0, 0, 0, 0, 0, 0, 22)) else (if t385 > 2932896 then (some (0, 0, 0, 0, 0, 0, 0, 22)) else ((moment_civil.f kj7 (wrap64 (t385 + 719162))).bind fun bt387 => (some (bt387.1, bt387.2.1, bt387.2.2.1, wrap64 (Int.tdiv t386 3600), Int.tmod (wrap64 (Int.tdiv t386 60)) 60, Int.tmod t386 60, a1, 0))))) = some (r1, r2, r3, r4, r5, r6, r7, r8) := H
       have A12 := Aside0.mk A120
       clear A120
       by_cases c13 : t385 < (-719162)
       ·rw [if_pos c13] at H
        have c13b0 : decide (t385 < (-719162)) = true := decide_eq_true c13
        clear c13
        simp only [Option.some.injEq, Prod.mk.injEq] at H
        obtain ⟨rfl, rfl, rfl, rfl, rfl, rfl, rfl, rfl⟩ := H
        go_wp2_with (first | ((with_reducible refine gate_callee (f := 48) rfl ?_); refine goesL_ (some 28) rfl rfl Tryd.func48 (by kernel_rfl) rfl #[.int .i64 (wrap64 (a0 + (wrap64 (60 * a1)))), .int .i64 86400] rfl (by (try simp only [List.map_toArray, List.map_cons, List.map_nil]); first | done | rfl | (simp only [List.length_drop, List.length_take]; rfl)) ?_; (with_reducible refine (moment_floor.calls (wrap64 (a0 + (wrap64 (60 * a1)))) 86400 t385 t386 _ A12.out).mono ?_); rintro e w' ⟨rfl, ⟨nd, rfl⟩⟩; refine ⟨_, rfl, ?_⟩; (try (rw [drewN_self wc]; generalize hq_ : World.drewN wc _ = wc; have n0_ : Aside0 (wc.heap[gb384]? = some (.cells #[.int .i64 0, .int .i64 0, .int .i64 0, .int .i64 0, .int .i64 0, .int .i64 0, .int .i64 0] 23 (0, 0))) := ⟨by rw [← hq_]; exact (by (with_reducible repeat (first | refine blk_drewN ?_ _ | refine blk_drew ?_ | refine blk_alloc ?_ _)); exact BK384.out)⟩; have n1_ : Aside0 (Below w.heap.size w wc) := ⟨by rw [← hq_]; exact (by repeat (first | (with_reducible first | exact HB.out | apply below_alloc | apply pw_below_drewN | apply below_drew1 | refine below_set ?_ GE384.out) | exact HB.out))⟩; clear BK384 HB hq_; have BK384 := n0_; have HB := n1_; clear n0_ n1_)); have hcz14_0 : wc.cell? ⟨gb384, 0, none⟩ = some (.int .i64 0) := (blk_cell BK384.out 0).trans rfl; have hcz14_1 : wc.cell? ⟨gb384, 1, none⟩ = some (.int .i64 0) := (blk_cell BK384.out 1).trans rfl; have hcz14_2 : wc.cell? ⟨gb384, 2, none⟩ = some (.int .i64 0) := (blk_cell BK384.out 2).trans rfl; have hcz14_3 : wc.cell? ⟨gb384, 3, none⟩ = some (.int .i64 0) := (blk_cell BK384.out 3).trans rfl; have hcz14_4 : wc.cell? ⟨gb384, 4, none⟩ = some (.int .i64 0) := (blk_cell BK384.out 4).trans rfl; have hcz14_5 : wc.cell? ⟨gb384, 5, none⟩ = some (.int .i64 0) := (blk_cell BK384.out 5).trans rfl; have hcz14_6 : wc.cell? ⟨gb384, 6, none⟩ = some (.int .i64 0) := (blk_cell BK384.out 6).trans rfl; have hfz14_0 := blk_frozen BK384.out 0; have hfz14_1 := blk_frozen BK384.out 1; have hfz14_2 := blk_frozen BK384.out 2; have hfz14_3 := blk_frozen BK384.out 3; have hfz14_4 := blk_frozen BK384.out 4; have hfz14_5 := blk_frozen BK384.out 5; have hfz14_6 := blk_frozen BK384.out 6))
        refine bodyPost_ret (results_ct rfl _ _ gb384 23 #[.int .i64 0, .int .i64 0, .int .i64 0, .int .i64 0, .int .i64 0, .int .i64 0, .int .i64 0] (0, 0) _ rfl (by (with_reducible repeat (first | refine blk_drewN ?_ _ | refine blk_drew ?_ | refine blk_alloc ?_ _)); refine blk_put (cs := #[.int .i64 0, .int .i64 0, .int .i64 0, .int .i64 0, .int .i64 0, .int .i64 0, .int .i64 0]) ?_ 6 _ rfl; (with_reducible repeat (first | refine blk_drewN ?_ _ | refine blk_drew ?_ | refine blk_alloc ?_ _)); refine blk_put (cs := #[.int .i64 0, .int .i64 0, .int .i64 0, .int .i64 0, .int .i64 0, .int .i64 0, .int .i64 0]) ?_ 5 _ rfl; (with_reducible repeat (first | refine blk_drewN ?_ _ | refine blk_drew ?_ | refine blk_alloc ?_ _)); refine blk_put (cs := #[.int .i64 0, .int .i64 0, .int .i64 0, .int .i64 0, .int .i64 0, .int .i64 0, .int .i64 0]) ?_ 4 _ rfl; (with_reducible repeat (first | refine blk_drewN ?_ _ | refine blk_drew ?_ | refine blk_alloc ?_ _)); refine blk_put (cs := #[.int .i64 0, .int .i64 0, .int .i64 0, .int .i64 0, .int .i64 0, .int .i64 0, .int .i64 0]) ?_ 3 _ rfl; (with_reducible repeat (first | refine blk_drewN ?_ _ | refine blk_drew ?_ | refine blk_alloc ?_ _)); refine blk_put (cs := #[.int .i64 0, .int .i64 0, .int .i64 0, .int .i64 0, .int .i64 0, .int .i64 0, .int .i64 0]) ?_ 2 _ rfl; (with_reducible repeat (first | refine blk_drewN ?_ _ | refine blk_drew ?_ | refine blk_alloc ?_ _)); refine blk_put (cs := #[.int .i64 0, .int .i64 0, .int .i64 0, .int .i64 0, .int .i64 0, .int .i64 0, .int .i64 0]) ?_ 1 _ rfl; (with_reducible repeat (first | refine blk_drewN ?_ _ | refine blk_drew ?_ | refine blk_alloc ?_ _)); refine blk_put (cs := #[.int .i64 0, .int .i64 0, .int .i64 0, .int .i64 0, .int .i64 0, .int .i64 0, .int .i64 0]) ?_ 0 _ rfl; (with_reducible repeat (first | refine blk_drewN ?_ _ | refine blk_drew ?_ | refine blk_alloc ?_ _)); exact BK384.out) Tryd.underlying23 rfl (by kernel_rfl)) rfl ?_
        exact ⟨by first | rfl | (simp [errW_none, errW_some] <;> rfl) | (simp [*, errW_none, errW_some] <;> rfl), by repeat (first | (with_reducible first | exact HB.out | apply below_alloc | apply pw_below_drewN | apply below_drew1 | refine below_set ?_ GE384.out) | exact HB.out)⟩
       ·rw [if_neg c13] at H
        have c13b0 : decide (t385 < (-719162)) = false := decide_eq_false c13
        clear c13
        by_cases c15 : t385 > 2932896
        ·rw [if_pos c15] at H
         have c15b0 : decide (2932896 < t385) = true := decide_eq_true c15
         clear c15
         simp only [Option.some.injEq, Prod.mk.injEq] at H
         obtain ⟨rfl, rfl, rfl, rfl, rfl, rfl, rfl, rfl⟩ := H
         go_wp2_with (first | ((with_reducible refine gate_callee (f := 48) rfl ?_); refine goesL_ (some 28) rfl rfl Tryd.func48 (by kernel_rfl) rfl #[.int .i64 (wrap64 (a0 + (wrap64 (60 * a1)))), .int .i64 86400] rfl (by (try simp only [List.map_toArray, List.map_cons, List.map_nil]); first | done | rfl | (simp only [List.length_drop, List.length_take]; rfl)) ?_; (with_reducible refine (moment_floor.calls (wrap64 (a0 + (wrap64 (60 * a1)))) 86400 t385 t386 _ A12.out).mono ?_); rintro e w' ⟨rfl, ⟨nd, rfl⟩⟩; refine ⟨_, rfl, ?_⟩; (try (rw [drewN_self wc]; generalize hq_ : World.drewN wc _ = wc; have n0_ : Aside0 (wc.heap[gb384]? = some (.cells #[.int .i64 0, .int .i64 0, .int .i64 0, .int .i64 0, .int .i64 0, .int .i64 0, .int .i64 0] 23 (0, 0))) := ⟨by rw [← hq_]; exact (by (with_reducible repeat (first | refine blk_drewN ?_ _ | refine blk_drew ?_ | refine blk_alloc ?_ _)); exact BK384.out)⟩; have n1_ : Aside0 (Below w.heap.size w wc) := ⟨by rw [← hq_]; exact (by repeat (first | (with_reducible first | exact HB.out | apply below_alloc | apply pw_below_drewN | apply below_drew1 | refine below_set ?_ GE384.out) | exact HB.out))⟩; clear BK384 HB hq_; have BK384 := n0_; have HB := n1_; clear n0_ n1_)); have hcz16_0 : wc.cell? ⟨gb384, 0, none⟩ = some (.int .i64 0) := (blk_cell BK384.out 0).trans rfl; have hcz16_1 : wc.cell? ⟨gb384, 1, none⟩ = some (.int .i64 0) := (blk_cell BK384.out 1).trans rfl; have hcz16_2 : wc.cell? ⟨gb384, 2, none⟩ = some (.int .i64 0) := (blk_cell BK384.out 2).trans rfl; have hcz16_3 : wc.cell? ⟨gb384, 3, none⟩ = some (.int .i64 0) := (blk_cell BK384.out 3).trans rfl; have hcz16_4 : wc.cell? ⟨gb384, 4, none⟩ = some (.int .i64 0) := (blk_cell BK384.out 4).trans rfl; have hcz16_5 : wc.cell? ⟨gb384, 5, none⟩ = some (.int .i64 0) := (blk_cell BK384.out 5).trans rfl; have hcz16_6 : wc.cell? ⟨gb384, 6, none⟩ = some (.int .i64 0) := (blk_cell BK384.out 6).trans rfl; have hfz16_0 := blk_frozen BK384.out 0; have hfz16_1 := blk_frozen BK384.out 1; have hfz16_2 := blk_frozen BK384.out 2; have hfz16_3 := blk_frozen BK384.out 3; have hfz16_4 := blk_frozen BK384.out 4; have hfz16_5 := blk_frozen BK384.out 5; have hfz16_6 := blk_frozen BK384.out 6))
         refine bodyPost_ret (results_ct rfl _ _ gb384 23 #[.int .i64 0, .int .i64 0, .int .i64 0, .int .i64 0, .int .i64 0, .int .i64 0, .int .i64 0] (0, 0) _ rfl (by (with_reducible repeat (first | refine blk_drewN ?_ _ | refine blk_drew ?_ | refine blk_alloc ?_ _)); refine blk_put (cs := #[.int .i64 0, .int .i64 0, .int .i64 0, .int .i64 0, .int .i64 0, .int .i64 0, .int .i64 0]) ?_ 6 _ rfl; (with_reducible repeat (first | refine blk_drewN ?_ _ | refine blk_drew ?_ | refine blk_alloc ?_ _)); refine blk_put (cs := #[.int .i64 0, .int .i64 0, .int .i64 0, .int .i64 0, .int .i64 0, .int .i64 0, .int .i64 0]) ?_ 5 _ rfl; (with_reducible repeat (first | refine blk_drewN ?_ _ | refine blk_drew ?_ | refine blk_alloc ?_ _)); refine blk_put (cs := #[.int .i64 0, .int .i64 0, .int .i64 0, .int .i64 0, .int .i64 0, .int .i64 0, .int .i64 0]) ?_ 4 _ rfl; (with_reducible repeat (first | refine blk_drewN ?_ _ | refine blk_drew ?_ | refine blk_alloc ?_ _)); refine blk_put (cs := #[.int .i64 0, .int .i64 0, .int .i64 0, .int .i64 0, .int .i64 0, .int .i64 0, .int .i64 0]) ?_ 3 _ rfl; (with_reducible repeat (first | refine blk_drewN ?_ _ | refine blk_drew ?_ | refine blk_alloc ?_ _)); refine blk_put (cs := #[.int .i64 0, .int .i64 0, .int .i64 0, .int .i64 0, .int .i64 0, .int .i64 0, .int .i64 0]) ?_ 2 _ rfl; (with_reducible repeat (first | refine blk_drewN ?_ _ | refine blk_drew ?_ | refine blk_alloc ?_ _)); refine blk_put (cs := #[.int .i64 0, .int .i64 0, .int .i64 0, .int .i64 0, .int .i64 0, .int .i64 0, .int .i64 0]) ?_ 1 _ rfl; (with_reducible repeat (first | refine blk_drewN ?_ _ | refine blk_drew ?_ | refine blk_alloc ?_ _)); refine blk_put (cs := #[.int .i64 0, .int .i64 0, .int .i64 0, .int .i64 0, .int .i64 0, .int .i64 0, .int .i64 0]) ?_ 0 _ rfl; (with_reducible repeat (first | refine blk_drewN ?_ _ | refine blk_drew ?_ | refine blk_alloc ?_ _)); exact BK384.out) Tryd.underlying23 rfl (by kernel_rfl)) rfl ?_
         exact ⟨by first | rfl | (simp [errW_none, errW_some] <;> rfl) | (simp [*, errW_none, errW_some] <;> rfl), by repeat (first | (with_reducible first | exact HB.out | apply below_alloc | apply pw_below_drewN | apply below_drew1 | refine below_set ?_ GE384.out) | exact HB.out)⟩
        ·rw [if_neg c15] at H
         have c15b0 : decide (2932896 < t385) = false := decide_eq_false c15
         clear c15
         replace H := Option.bind_eq_some_iff.mp H
         obtain ⟨⟨t387, t388, t389, t390, t391, t392, t393⟩, A170, H⟩ := H
         replace H : (some (t387, t388, t389, wrap64 (Int.tdiv t386 3600), Int.tmod (wrap64 (Int.tdiv t386 60)) 60, Int.tmod t386 60, a1, 0)) = some (r1, r2, r3, r4, r5, r6, r7, r8) := H
         have A17 := Aside0.mk A170
         clear A170
         simp only [Option.some.injEq, Prod.mk.injEq] at H
         obtain ⟨rfl, rfl, rfl, rfl, rfl, rfl, rfl, rfl⟩ := H
         go_upto_region 9 with (first | ((with_reducible refine gate_callee (f := 48) rfl ?_); refine goesL_ (some 28) rfl rfl Tryd.func48 (by kernel_rfl) rfl #[.int .i64 (wrap64 (a0 + (wrap64 (60 * a1)))), .int .i64 86400] rfl (by (try simp only [List.map_toArray, List.map_cons, List.map_nil]); first | done | rfl | (simp only [List.length_drop, List.length_take]; rfl)) ?_; (with_reducible refine (moment_floor.calls (wrap64 (a0 + (wrap64 (60 * a1)))) 86400 t385 t386 _ A12.out).mono ?_); rintro e w' ⟨rfl, ⟨nd, rfl⟩⟩; refine ⟨_, rfl, ?_⟩; (try (rw [drewN_self wc]; generalize hq_ : World.drewN wc _ = wc; have n0_ : Aside0 (wc.heap[gb384]? = some (.cells #[.int .i64 0, .int .i64 0, .int .i64 0, .int .i64 0, .int .i64 0, .int .i64 0, .int .i64 0] 23 (0, 0))) := ⟨by rw [← hq_]; exact (by (with_reducible repeat (first | refine blk_drewN ?_ _ | refine blk_drew ?_ | refine blk_alloc ?_ _)); exact BK384.out)⟩; have n1_ : Aside0 (Below w.heap.size w wc) := ⟨by rw [← hq_]; exact (by repeat (first | (with_reducible first | exact HB.out | apply below_alloc | apply pw_below_drewN | apply below_drew1 | refine below_set ?_ GE384.out) | exact HB.out))⟩; clear BK384 HB hq_; have BK384 := n0_; have HB := n1_; clear n0_ n1_))) | ((with_reducible refine gate_callee (f := 73) rfl ?_); refine goesL_ (some 40) rfl rfl Tryd.func73 (by kernel_rfl) rfl #[.int .i64 (wrap64 (t385 + 719162))] rfl (by (try simp only [List.map_toArray, List.map_cons, List.map_nil]); first | done | rfl | (simp only [List.length_drop, List.length_take]; rfl)) ?_; (with_reducible refine (moment_civil.calls kj7 (wrap64 (t385 + 719162)) t387 t388 t389 t390 t391 t392 t393 _ A17.out (by first | exact laid_below HL_.out (by repeat (first | (with_reducible first | exact HB.out | apply below_alloc | apply pw_below_drewN | apply below_drew1) | exact HB.out)) | exact laid_drawn HL_.out (by repeat (first | exact Drawn0.refl _ | apply Drawn0.step)))).mono ?_); rintro e w18 ⟨rfl, hb⟩; refine ⟨_, rfl, ?_⟩; have n0_ := Aside0.mk (blk_below (g := gb384) (o := .cells #[.int .i64 0, .int .i64 0, .int .i64 0, .int .i64 0, .int .i64 0, .int .i64 0, .int .i64 0] 23 (0, 0)) (by (with_reducible repeat (first | refine blk_drewN ?_ _ | refine blk_drew ?_ | refine blk_alloc ?_ _)); exact BK384.out) hb); have n1_ := Aside0.mk (below_step (by repeat (first | (with_reducible first | exact HB.out | apply below_alloc | apply pw_below_drewN | apply below_drew1 | refine below_set ?_ GE384.out) | exact HB.out)) hb); clear BK384; clear HB; have BK384 := n0_; have HB := n1_; clear n0_ n1_; (try clear hb); (try clear hb2); (try clear hk); (try clear hi)) | ((with_reducible refine gate_dst (N := 8) rfl ?_); refine box_event ?hg (N := 8) ?hd (cs := #[.int .i64 0, .int .i64 0, .int .i64 0, .int .i64 0, .int .i64 0, .int .i64 0, .int .i64 0]) (t := 23) ?hr ?_; (case hd => rfl); (case hg => rfl); (case hr => first | (go_simp; done) | (go_simp; rfl)); intro gb394 hg w19 hbox hb; have n0_ := Aside0.mk (blk_below (g := gb384) (o := .cells #[.int .i64 0, .int .i64 0, .int .i64 0, .int .i64 0, .int .i64 0, .int .i64 0, .int .i64 0] 23 (0, 0)) (by (with_reducible repeat (first | refine blk_drewN ?_ _ | refine blk_drew ?_ | refine blk_alloc ?_ _)); exact BK384.out) hb); have n1_ := Aside0.mk (below_step (by repeat (first | (with_reducible first | exact HB.out | apply below_alloc | apply pw_below_drewN | apply below_drew1 | refine below_set ?_ GE384.out) | exact HB.out)) hb); have n2_ := Aside0.mk (hbox); have n3_ := Aside0.mk ((by rw [hg]; exact (below_size (by repeat (first | (with_reducible first | exact HB.out | apply below_alloc | apply pw_below_drewN | apply below_drew1 | refine below_set ?_ GE384.out) | exact HB.out))) : w.heap.size ≤ gb394)); have n4_ := Aside0.mk ((by rw [hg]; exact (below_size (by repeat (first | (with_reducible first | exact HB.out | apply below_alloc | apply pw_below_drewN | apply below_drew1 | refine below_set ?_ GE384.out) | exact HB.out))) : w.heap.size ≤ gb394)); have n5_ := Aside0.mk ((by rw [hg]; exact Nat.ne_of_lt (blk_lt (g := gb384) (o := .cells #[.int .i64 0, .int .i64 0, .int .i64 0, .int .i64 0, .int .i64 0, .int .i64 0, .int .i64 0] 23 (0, 0)) (by (with_reducible repeat (first | refine blk_drewN ?_ _ | refine blk_drew ?_ | refine blk_alloc ?_ _)); exact BK384.out)) : gb384 ≠ gb394)); have n6_ := Aside0.mk ((by rw [hg]; exact Nat.ne_of_gt (blk_lt (g := gb384) (o := .cells #[.int .i64 0, .int .i64 0, .int .i64 0, .int .i64 0, .int .i64 0, .int .i64 0, .int .i64 0] 23 (0, 0)) (by (with_reducible repeat (first | refine blk_drewN ?_ _ | refine blk_drew ?_ | refine blk_alloc ?_ _)); exact BK384.out)) : gb394 ≠ gb384)); clear BK384; clear HB; have BK384 := n0_; have HB := n1_; have BK394 := n2_; have GW394 := n3_; have GE394 := n4_; have NB384_394 := n5_; have NB394_384 := n6_; clear n0_ n1_ n2_ n3_ n4_ n5_ n6_; clear hb hbox hg; have hnb20 := NB394_384.out; have hnc20 := NB384_394.out; have hcz21_0 : w19.cell? ⟨gb394, 0, none⟩ = some (.int .i64 0) := (blk_cell BK394.out 0).trans rfl; have hcz21_1 : w19.cell? ⟨gb394, 1, none⟩ = some (.int .i64 0) := (blk_cell BK394.out 1).trans rfl; have hcz21_2 : w19.cell? ⟨gb394, 2, none⟩ = some (.int .i64 0) := (blk_cell BK394.out 2).trans rfl; have hcz21_3 : w19.cell? ⟨gb394, 3, none⟩ = some (.int .i64 0) := (blk_cell BK394.out 3).trans rfl; have hcz21_4 : w19.cell? ⟨gb394, 4, none⟩ = some (.int .i64 0) := (blk_cell BK394.out 4).trans rfl; have hcz21_5 : w19.cell? ⟨gb394, 5, none⟩ = some (.int .i64 0) := (blk_cell BK394.out 5).trans rfl; have hcz21_6 : w19.cell? ⟨gb394, 6, none⟩ = some (.int .i64 0) := (blk_cell BK394.out 6).trans rfl; have hfz21_0 := blk_frozen BK394.out 0; have hfz21_1 := blk_frozen BK394.out 1; have hfz21_2 := blk_frozen BK394.out 2; have hfz21_3 := blk_frozen BK394.out 3; have hfz21_4 := blk_frozen BK394.out 4; have hfz21_5 := blk_frozen BK394.out 5; have hfz21_6 := blk_frozen BK394.out 6; have hcz22_0 : w19.cell? ⟨gb384, 0, none⟩ = some (.int .i64 0) := (blk_cell BK384.out 0).trans rfl; have hcz22_1 : w19.cell? ⟨gb384, 1, none⟩ = some (.int .i64 0) := (blk_cell BK384.out 1).trans rfl; have hcz22_2 : w19.cell? ⟨gb384, 2, none⟩ = some (.int .i64 0) := (blk_cell BK384.out 2).trans rfl; have hcz22_3 : w19.cell? ⟨gb384, 3, none⟩ = some (.int .i64 0) := (blk_cell BK384.out 3).trans rfl; have hcz22_4 : w19.cell? ⟨gb384, 4, none⟩ = some (.int .i64 0) := (blk_cell BK384.out 4).trans rfl; have hcz22_5 : w19.cell? ⟨gb384, 5, none⟩ = some (.int .i64 0) := (blk_cell BK384.out 5).trans rfl; have hcz22_6 : w19.cell? ⟨gb384, 6, none⟩ = some (.int .i64 0) := (blk_cell BK384.out 6).trans rfl; have hfz22_0 := blk_frozen BK384.out 0; have hfz22_1 := blk_frozen BK384.out 1; have hfz22_2 := blk_frozen BK384.out 2; have hfz22_3 := blk_frozen BK384.out 3; have hfz22_4 := blk_frozen BK384.out 4; have hfz22_5 := blk_frozen BK384.out 5; have hfz22_6 := blk_frozen BK384.out 6))
         have S7 := set7 BK394.out (.int .i64 t387) (.int .i64 t388) (.int .i64 t389) (.int .i64 t390) (.int .i64 t391) (.int .i64 t392) (.int .i64 t393)
         have n0_ := Lib.hid S7.1
         have n1_ := Lib.hid (S7.2 _ _ HB.out GE394.out)
         have n2_ : Aside0 ((((((((w19.setCell ⟨gb394, 0, none⟩ (.int .i64 t387)).setCell ⟨gb394, 1, none⟩ (.int .i64 t388)).setCell ⟨gb394, 2, none⟩ (.int .i64 t389)).setCell ⟨gb394, 3, none⟩ (.int .i64 t390)).setCell ⟨gb394, 4, none⟩ (.int .i64 t391)).setCell ⟨gb394, 5, none⟩ (.int .i64 t392)).setCell ⟨gb394, 6, none⟩ (.int .i64 t393)).heap[gb384]? = some (.cells #[.int .i64 0, .int .i64 0, .int .i64 0, .int .i64 0, .int .i64 0, .int .i64 0, .int .i64 0] 23 (0, 0))) := ⟨by (repeat (refine blk_far ?_ NB384_394.out _)); exact BK384.out⟩
         clear S7
         generalize (((((((w19.setCell ⟨gb394, 0, none⟩ (.int .i64 t387)).setCell ⟨gb394, 1, none⟩ (.int .i64 t388)).setCell ⟨gb394, 2, none⟩ (.int .i64 t389)).setCell ⟨gb394, 3, none⟩ (.int .i64 t390)).setCell ⟨gb394, 4, none⟩ (.int .i64 t391)).setCell ⟨gb394, 5, none⟩ (.int .i64 t392)).setCell ⟨gb394, 6, none⟩ (.int .i64 t393)) = w20 at *
         clear BK394 BK384 HB
         clear hcz21_0 hcz21_1 hcz21_2 hcz21_3 hcz21_4 hcz21_5 hcz21_6 hfz21_0 hfz21_1 hfz21_2 hfz21_3 hfz21_4 hfz21_5 hfz21_6 hcz22_0 hcz22_1 hcz22_2 hcz22_3 hcz22_4 hcz22_5 hcz22_6 hfz22_0 hfz22_1 hfz22_2 hfz22_3 hfz22_4 hfz22_5 hfz22_6
         obtain ⟨⟨k0, k1, k2, k3, k4, k5, k6⟩, kf⟩ := cells7 n0_.out
         have kf3 := kf 3
         have kf4 := kf 4
         have kf5 := kf 5
         have kf6 := kf 6
         go_upto_region 10 with fail
         have m0_ := Aside0.mk (blk_put (cs' := #[.int .i64 t387, .int .i64 t388, .int .i64 t389, .int .i64 (wrap64 (Int.tdiv t386 3600)), .int .i64 (Int.tmod (wrap64 (Int.tdiv t386 60)) 60), .int .i64 (Int.tmod t386 60), .int .i64 a1]) (blk_put (cs' := #[.int .i64 t387, .int .i64 t388, .int .i64 t389, .int .i64 (wrap64 (Int.tdiv t386 3600)), .int .i64 (Int.tmod (wrap64 (Int.tdiv t386 60)) 60), .int .i64 (Int.tmod t386 60), .int .i64 t393]) (blk_put (cs' := #[.int .i64 t387, .int .i64 t388, .int .i64 t389, .int .i64 (wrap64 (Int.tdiv t386 3600)), .int .i64 (Int.tmod (wrap64 (Int.tdiv t386 60)) 60), .int .i64 t392, .int .i64 t393]) (blk_put (cs' := #[.int .i64 t387, .int .i64 t388, .int .i64 t389, .int .i64 (wrap64 (Int.tdiv t386 3600)), .int .i64 t391, .int .i64 t392, .int .i64 t393]) n0_.out 3 (.int .i64 (wrap64 (Int.tdiv t386 3600))) rfl) 4 (.int .i64 (Int.tmod (wrap64 (Int.tdiv t386 60)) 60)) rfl) 5 (.int .i64 (Int.tmod t386 60)) rfl) 6 (.int .i64 a1) rfl)
         have m1_ := Aside0.mk (Below.setCell (Below.setCell (Below.setCell (Below.setCell n1_.out (p := ⟨gb394, 3, none⟩) GE394.out (.int .i64 (wrap64 (Int.tdiv t386 3600)))) (p := ⟨gb394, 4, none⟩) GE394.out (.int .i64 (Int.tmod (wrap64 (Int.tdiv t386 60)) 60))) (p := ⟨gb394, 5, none⟩) GE394.out (.int .i64 (Int.tmod t386 60))) (p := ⟨gb394, 6, none⟩) GE394.out (.int .i64 a1))
         have m2_ : Aside0 (((((w20.setCell ⟨gb394, 3, none⟩ (.int .i64 (wrap64 (Int.tdiv t386 3600)))).setCell ⟨gb394, 4, none⟩ (.int .i64 (Int.tmod (wrap64 (Int.tdiv t386 60)) 60))).setCell ⟨gb394, 5, none⟩ (.int .i64 (Int.tmod t386 60))).setCell ⟨gb394, 6, none⟩ (.int .i64 a1)).heap[gb384]? = some (.cells #[.int .i64 0, .int .i64 0, .int .i64 0, .int .i64 0, .int .i64 0, .int .i64 0, .int .i64 0] 23 (0, 0))) := ⟨by (repeat (refine blk_far ?_ NB384_394.out _)); exact n2_.out⟩
         generalize ((((w20.setCell ⟨gb394, 3, none⟩ (.int .i64 (wrap64 (Int.tdiv t386 3600)))).setCell ⟨gb394, 4, none⟩ (.int .i64 (Int.tmod (wrap64 (Int.tdiv t386 60)) 60))).setCell ⟨gb394, 5, none⟩ (.int .i64 (Int.tmod t386 60))).setCell ⟨gb394, 6, none⟩ (.int .i64 a1)) = w21 at *
         clear n0_ n1_ n2_ k0 k1 k2 k3 k4 k5 k6 kf kf3 kf4 kf5 kf6
         obtain ⟨⟨k0, k1, k2, k3, k4, k5, k6⟩, kf⟩ := cells7 m0_.out
         obtain ⟨⟨q0, q1, q2, q3, q4, q5, q6⟩, qf⟩ := cells7 m2_.out
         have qf0 := qf 0
         have qf1 := qf 1
         have qf2 := qf 2
         have qf3 := qf 3
         have qf4 := qf 4
         have qf5 := qf 5
         have qf6 := qf 6
         go_wp2
         exact bodyPost_ret (results_ct rfl _ _ gb384 23 #[.int .i64 t387, .int .i64 t388, .int .i64 t389, .int .i64 (wrap64 (Int.tdiv t386 3600)), .int .i64 (Int.tmod (wrap64 (Int.tdiv t386 60)) 60), .int .i64 (Int.tmod t386 60), .int .i64 a1] (0, 0) _ rfl (set7 m2_.out _ _ _ _ _ _ _).1 Tryd.underlying23 rfl (by kernel_rfl)) rfl ⟨rfl, (set7 m2_.out _ _ _ _ _ _ _).2 _ _ m1_.out GE384.out⟩
end Go.Proofs.YtjlchnmpebdggaaDoor.Mo
end
section
namespace Go.Proofs.YtjlchnmpebdggaaDoor.Mo
open Go.RowKit Go.Proofs.YtjlchnmpebdggaaDoorW.PrintWords Go.Proofs.YtjlchnmpebdggaaDoorW.PrintLast Go.Proofs.YtjlchnmpebdggaaDoorW.PrintMore
attribute [local go_sem] max2_int min2_int max_two min_two max_three min_three max_four min_four   -- for this text's walks alone
set_option linter.unusedVariables false
set_option linter.unusedSimpArgs false
mutual
def postbagref2_At.j0 : Nat → Int → Int → Bool → Option (Int × Int × Int × Int × Int × Int × Int × Int)
 | 0, _, _, _ => none
 | k + 1, x0, x1, x14 => if x14 = true then (some (0, 0, 0, 0, 0, 0, 0, 1)) else (if x0 < (-62135696800) then (postbagref2_At.j1 k x0 x1 true) else (if x0 > 253402400799 then (postbagref2_At.j1 k x0 x1 true) else (if (wrap64 (x0 + (wrap64 (60 * x1)))) < (-62135596800) then (postbagref2_At.j1 k x0 x1 true) else (postbagref2_At.j1 k x0 x1 (decide ((wrap64 (x0 + (wrap64 (60 * x1)))) > 253402300799))))))
def postbagref2_At.j1 : Nat → Int → Int → Bool → Option (Int × Int × Int × Int × Int × Int × Int × Int)
 | 0, _, _, _ => none
 | k + 1, x0, x1, x35 => if x35 = true then (some (0, 0, 0, 0, 0, 0, 0, 22)) else (postbagref2_At.l0 k (wrap64 (Int.tdiv (wrap64 ((wrap64 (x0 + (wrap64 (60 * x1)))) - (-62135596800))) 86400)) 1 1 0 (wrap64 (Int.tdiv (Int.tmod (wrap64 ((wrap64 (x0 + (wrap64 (60 * x1)))) - (-62135596800))) 86400) 3600)) (Int.tmod (wrap64 (Int.tdiv (Int.tmod (wrap64 ((wrap64 (x0 + (wrap64 (60 * x1)))) - (-62135596800))) 86400) 60)) 60) (Int.tmod (wrap64 ((wrap64 (x0 + (wrap64 (60 * x1)))) - (-62135596800))) 60) x1)
def postbagref2_At.l0 : Nat → Int → Int → Int → Int → Int → Int → Int → Int → Option (Int × Int × Int × Int × Int × Int × Int × Int)
 | 0, _, _, _, _, _, _, _, _ => none
 | k + 1, x7, x397000, x397001, x397002, x397003, x397004, x397005, x397006 => (postbagref2_year.f x397000).bind fun t397 => (if x7 ≥ t397 then ((postbagref2_year.f x397000).bind fun t398 => (postbagref2_At.l0 k (wrap64 (x7 - t398)) (wrap64 (x397000 + 1)) x397001 x397002 x397003 x397004 x397005 x397006)) else (postbagref2_At.l1 k x7 x397000 x397001 x397002 x397003 x397004 x397005 x397006))
def postbagref2_At.l1 : Nat → Int → Int → Int → Int → Int → Int → Int → Int → Option (Int × Int × Int × Int × Int × Int × Int × Int)
 | 0, _, _, _, _, _, _, _, _ => none
 | k + 1, x7, x397000, x397001, x397002, x397003, x397004, x397005, x397006 => (postbagref2_length.f k x397000 x397001).bind fun t399 => (if x7 ≥ t399 then ((postbagref2_length.f k x397000 x397001).bind fun t400 => (postbagref2_At.l1 k (wrap64 (x7 - t400)) x397000 (wrap64 (x397001 + 1)) x397002 x397003 x397004 x397005 x397006)) else (some (x397000, x397001, wrap64 (x7 + 1), x397003, x397004, x397005, x397006, 0)))
end
def postbagref2_At.f (k : Nat) (a0 : Int) (a1 : Int) : Option (Int × Int × Int × Int × Int × Int × Int × Int) := if a1 < (-1439) then (postbagref2_At.j0 k a0 a1 true) else (postbagref2_At.j0 k a0 a1 (decide (a1 > 1439)))
end Go.Proofs.YtjlchnmpebdggaaDoor.Mo
end
section
namespace Go.Proofs.YtjlchnmpebdggaaDoor.Mo
open Go.RowKit Go.Proofs.YtjlchnmpebdggaaDoorW.PrintWords
theorem cum12 (y : Int) : cumN y 12 = yearLen y := by
  simp only [cumN, lengthP, yearLen]
  cases leapB y <;> decide
set_option maxHeartbeats 1000000 in
theorem find_m (y : Int) : ∀ (n j : Nat) (x : Int), 1 ≤ j → j + n = 12 → 0 ≤ x → x < cumN y 12 - cumN y (j - 1) →
    ∃ M : Nat, j ≤ M ∧ M ≤ 12 ∧ 0 ≤ x + cumN y (j - 1) - cumN y (M - 1) ∧ x + cumN y (j - 1) - cumN y (M - 1) < lengthP y (M : Int) ∧
      ∀ k, n + 1 < k → moment_civil.l0 k x y (j : Int) = some (y, (M : Int), x + cumN y (j - 1) - cumN y (M - 1) + 1, 0, 0, 0, 0) ∧
        ∀ h mi s z, postbagref2_At.l1 k x y (j : Int) 0 h mi s z = some (y, (M : Int), x + cumN y (j - 1) - cumN y (M - 1) + 1, h, mi, s, z, 0) := by
  intro n
  induction n with
  | zero =>
    intro j x h1 h2 hx0 hx1
    obtain rfl : j = 12 := by omega
    have hs := cum_step y 12 (by omega)
    have hl := length_range y ((12 : Nat) : Int) (by omega) (by omega)
    have hlf : moment_length.f y ((12 : Nat) : Int) = some (lengthP y ((12 : Nat) : Int)) := if_pos ⟨by omega, by omega⟩
    refine ⟨12, by omega, by omega, by omega, by omega, fun k hk => ?_⟩
    obtain ⟨k, rfl⟩ : ∃ q, k = q + 1 := ⟨k - 1, by omega⟩
    have hlr := length_ref k (by omega) y ((12 : Nat) : Int) (by omega) (by omega)
    constructor
    · simp only [moment_civil.l0]
      rw [hlf]
      simp only [Option.bind_some]
      rw [if_neg (by omega), w64 _ (by omega) (by omega)]
      congr 4
      omega
    · intro h mi s z
      simp only [postbagref2_At.l1]
      rw [hlr]
      simp only [Option.bind_some]
      rw [if_neg (by omega), w64 _ (by omega) (by omega)]
      congr 4
      omega
  | succ n ih =>
    intro j x h1 h2 hx0 hx1
    have hs := cum_step y j h1
    have hl := length_range y (j : Int) (by omega) (by omega)
    have hlf : moment_length.f y (j : Int) = some (lengthP y (j : Int)) := if_pos ⟨by omega, by omega⟩
    have hc := cumN_range y 12 (by omega)
    have hc1 := cumN_range y (j - 1) (by omega)
    by_cases hb : x < lengthP y (j : Int)
    · refine ⟨j, by omega, by omega, by omega, by omega, fun k hk => ?_⟩
      obtain ⟨k, rfl⟩ : ∃ q, k = q + 1 := ⟨k - 1, by omega⟩
      have hlr := length_ref k (by omega) y (j : Int) (by omega) (by omega)
      constructor
      · simp only [moment_civil.l0]
        rw [hlf]
        simp only [Option.bind_some]
        rw [if_neg (by omega), w64 _ (by omega) (by omega)]
        congr 4
        omega
      · intro h mi s z
        simp only [postbagref2_At.l1]
        rw [hlr]
        simp only [Option.bind_some]
        rw [if_neg (by omega), w64 _ (by omega) (by omega)]
        congr 4
        omega
    · obtain ⟨M, m1, m2, m3, m4, m5⟩ := ih (j + 1) (x - lengthP y (j : Int)) (by omega) (by omega) (by omega) (by rw [show j + 1 - 1 = j from rfl]; omega)
      rw [show j + 1 - 1 = j from rfl] at m3 m4 m5
      have ex : x - lengthP y (j : Int) + cumN y j = x + cumN y (j - 1) := by omega
      rw [ex] at m3 m4 m5
      refine ⟨M, by omega, m2, m3, m4, fun k hk => ?_⟩
      obtain ⟨k, rfl⟩ : ∃ q, k = q + 1 := ⟨k - 1, by omega⟩
      have hlr := length_ref k (by omega) y (j : Int) (by omega) (by omega)
      obtain ⟨r1, r2⟩ := m5 k (by omega)
      rw [show ((j + 1 : Nat) : Int) = (j : Int) + 1 from by omega] at r1 r2
      constructor
      · simp only [moment_civil.l0]
        rw [hlf]
        simp only [Option.bind_some]
        rw [if_pos (by omega), w64 _ (by omega) (by omega), w64 _ (by omega) (by omega)]
        exact r1
      · intro h mi s z
        simp only [postbagref2_At.l1]
        rw [hlr]
        simp only [Option.bind_some]
        rw [if_pos (by omega), w64 _ (by omega) (by omega), w64 _ (by omega) (by omega)]
        exact r2 h mi s z
theorem find_y : ∀ (n : Nat) (y x : Int), 1 ≤ y → y + n = 9999 → 0 ≤ x → x < dby 10000 - dby y →
    ∃ Y, y ≤ Y ∧ Y ≤ 9999 ∧ 0 ≤ x + dby y - dby Y ∧ x + dby y - dby Y < yearLen Y ∧
      ∀ k, n < k → ∃ k', k ≤ k' + n + 1 ∧ ∀ a b c d e f, postbagref2_At.l0 k x y a b c d e f = postbagref2_At.l1 k' (x + dby y - dby Y) Y a b c d e f := by
  intro n
  induction n with
  | zero =>
    intro y x h1 h2 hx0 hx1
    obtain rfl : y = 9999 := by omega
    have hs : dby 10000 = dby 9999 + yearLen 9999 := dby_succ 9999 (by omega)
    refine ⟨9999, by omega, by omega, by omega, by omega, fun k hk => ?_⟩
    obtain ⟨k, rfl⟩ : ∃ q, k = q + 1 := ⟨k - 1, by omega⟩
    refine ⟨k, by omega, fun a b c d e f => ?_⟩
    simp only [postbagref2_At.l0]
    rw [year_ref]
    simp only [Option.bind_some]
    rw [if_neg (by omega), show x + dby 9999 - dby 9999 = x from by omega]
  | succ n ih =>
    intro y x h1 h2 hx0 hx1
    have hs := dby_succ y (by omega)
    have hr := dby_range y (by omega) (by omega)
    have hr1 := dby_range 10000 (by omega) (by omega)
    have hl := yearLen_range y
    by_cases hb : x < yearLen y
    · refine ⟨y, by omega, by omega, by omega, by omega, fun k hk => ?_⟩
      obtain ⟨k, rfl⟩ : ∃ q, k = q + 1 := ⟨k - 1, by omega⟩
      refine ⟨k, by omega, fun a b c d e f => ?_⟩
      simp only [postbagref2_At.l0]
      rw [year_ref]
      simp only [Option.bind_some]
      rw [if_neg (by omega), show x + dby y - dby y = x from by omega]
    · obtain ⟨Y, y1, y2, y3, y4, y5⟩ := ih (y + 1) (x - yearLen y) (by omega) (by omega) (by omega) (by omega)
      have ex : x - yearLen y + dby (y + 1) = x + dby y := by omega
      rw [ex] at y3 y4 y5
      refine ⟨Y, by omega, y2, y3, y4, fun k hk => ?_⟩
      obtain ⟨k, rfl⟩ : ∃ q, k = q + 1 := ⟨k - 1, by omega⟩
      obtain ⟨k', e1, e2⟩ := y5 k (by omega)
      refine ⟨k', by omega, fun a b c d e f => ?_⟩
      simp only [postbagref2_At.l0]
      rw [year_ref]
      simp only [Option.bind_some]
      rw [if_pos (by omega), w64 _ (by omega) (by omega), w64 _ (by omega) (by omega)]
      exact e2 a b c d e f
theorem dby_mono {a b : Int} (h : a ≤ b) : dby a ≤ dby b := by unfold dby; omega
theorem year_unique {N a b : Int} (ha : 1 ≤ a) (hb : 1 ≤ b) (a1 : dby a ≤ N) (a2 : N < dby a + yearLen a) (b1 : dby b ≤ N) (b2 : N < dby b + yearLen b) : a = b := by
  rw [← dby_succ a ha] at a2
  rw [← dby_succ b hb] at b2
  rcases Int.lt_trichotomy a b with h | h | h
  · have := dby_mono (show a + 1 ≤ b by omega); omega
  · exact h
  · have := dby_mono (show b + 1 ≤ a by omega); omega
set_option maxHeartbeats 1000000 in
theorem civil_year (k : Nat) (N Y : Int) (h0 : 0 ≤ N) (h1 : N ≤ 3652058) (y1 : 1 ≤ Y) (a1 : dby Y ≤ N) (a2 : N < dby Y + yearLen Y) : moment_civil.f k N = moment_civil.l0 k (N - dby Y) Y 1 := by
  unfold moment_civil.f
  rw [Int.tmod_eq_emod_of_nonneg h0, Int.tdiv_eq_ediv_of_nonneg h0]
  have hA : ∃ A, A = N / 146097 := ⟨_, rfl⟩
  obtain ⟨A, hA⟩ := hA
  have hR : ∃ R, R = N % 146097 := ⟨_, rfl⟩
  obtain ⟨R, hR⟩ := hR
  rw [← hA, ← hR]
  have r0 : 0 ≤ R ∧ R < 146097 := by omega
  have r1 : N = 146097 * A + R := by omega
  have r2 : 0 ≤ A ∧ A ≤ 24 := by omega
  clear hA hR
  rw [Int.tdiv_eq_ediv_of_nonneg r0.1]
  obtain ⟨B, hB⟩ : ∃ B, B = mn (wrap64 (R / 36524)) 3 := ⟨_, rfl⟩
  rw [← hB]
  rw [w64 _ (by omega) (by omega)] at hB
  have b0 : 0 ≤ B ∧ B ≤ 3 ∧ 36524 * B ≤ R ∧ (B ≤ 2 → R < 36524 * B + 36524) := by unfold mn at hB; split at hB <;> omega
  clear hB
  rw [w64 (36524 * B) (by omega) (by omega), w64 (R - 36524 * B) (by omega) (by omega)]
  obtain ⟨S, hS⟩ : ∃ S, S = R - 36524 * B := ⟨_, rfl⟩
  rw [← hS]
  have s0 : 0 ≤ S ∧ S ≤ 36524 ∧ (S = 36524 → B = 3) := by omega
  rw [Int.tmod_eq_emod_of_nonneg s0.1, Int.tdiv_eq_ediv_of_nonneg s0.1]
  obtain ⟨C, hC⟩ : ∃ C, C = S / 1461 := ⟨_, rfl⟩
  obtain ⟨U, hU⟩ : ∃ U, U = S % 1461 := ⟨_, rfl⟩
  rw [← hC, ← hU]
  have u0 : 0 ≤ U ∧ U ≤ 1460 ∧ S = 1461 * C + U ∧ 0 ≤ C ∧ C ≤ 24 := by omega
  clear hC hU
  rw [Int.tdiv_eq_ediv_of_nonneg u0.1]
  obtain ⟨E, hE⟩ : ∃ E, E = mn (wrap64 (U / 365)) 3 := ⟨_, rfl⟩
  rw [← hE]
  rw [w64 _ (by omega) (by omega)] at hE
  have e0 : 0 ≤ E ∧ E ≤ 3 ∧ 365 * E ≤ U ∧ (E ≤ 2 → U < 365 * E + 365) := by unfold mn at hE; split at hE <;> omega
  clear hE
  rw [w64 A (by omega) (by omega), w64 (400 * A) (by omega) (by omega), w64 (1 + 400 * A) (by omega) (by omega), w64 (100 * B) (by omega) (by omega), w64 C (by omega) (by omega), w64 (4 * C) (by omega) (by omega), w64 (100 * B + 4 * C) (by omega) (by omega), w64 (1 + 400 * A + (100 * B + 4 * C)) (by omega) (by omega), w64 (1 + 400 * A + (100 * B + 4 * C) + E) (by omega) (by omega), w64 (365 * E) (by omega) (by omega), w64 (U - 365 * E) (by omega) (by omega)]
  have hy : 1 ≤ 1 + 400 * A + (100 * B + 4 * C) + E := by omega
  have hd : dby (1 + 400 * A + (100 * B + 4 * C) + E) = 365 * (400 * A + 100 * B + 4 * C + E) + (100 * A + 25 * B + C) - (4 * A + B) + A := by
    have q1 : (1 + 400 * A + (100 * B + 4 * C) + E - 1) / 4 = 100 * A + 25 * B + C := by omega
    have q2 : (1 + 400 * A + (100 * B + 4 * C) + E - 1) / 100 = 4 * A + B := by omega
    have q3 : (1 + 400 * A + (100 * B + 4 * C) + E - 1) / 400 = A := by omega
    unfold dby
    rw [q1, q2, q3]
    omega
  have hl : U - 365 * E < yearLen (1 + 400 * A + (100 * B + 4 * C) + E) := by
    unfold yearLen leapB
    rw [Int.tmod_eq_emod_of_nonneg (by omega), Int.tmod_eq_emod_of_nonneg (by omega), Int.tmod_eq_emod_of_nonneg (by omega)]
    by_cases hE : E ≤ 2
    · split <;> omega
    · have hE3 : E = 3 := by omega
      subst hE3
      have m4 : (1 + 400 * A + (100 * B + 4 * C) + 3) % 4 = 0 := by omega
      by_cases hU : U = 1460
      · have hmm : (1 + 400 * A + (100 * B + 4 * C) + 3) % 100 ≠ 0 ∨ (1 + 400 * A + (100 * B + 4 * C) + 3) % 400 = 0 := by
          by_cases hC : C = 24
          · right; have : B = 3 := s0.2.2 (by omega); omega
          · left; omega
        rw [if_pos (by rcases hmm with h | h <;> simp [m4, h])]
        omega
      · split <;> omega
  have hYe : Y = 1 + 400 * A + (100 * B + 4 * C) + E := year_unique y1 hy a1 a2 (by omega) (by omega)
  rw [← hYe] at hd
  rw [← hYe]
  congr 1
  omega
def AtSpec (a z : Int) (r : Int × Int × Int × Int × Int × Int × Int × Int) : Prop :=
  ((z < -1439 ∨ 1439 < z) ∧ r = (0, 0, 0, 0, 0, 0, 0, 1)) ∨
  ((-1439 ≤ z ∧ z ≤ 1439) ∧ (a + 60 * z < -62135596800 ∨ 253402300799 < a + 60 * z) ∧ r = (0, 0, 0, 0, 0, 0, 0, 22)) ∨
  ((-1439 ≤ z ∧ z ≤ 1439) ∧ (-62135596800 ≤ a + 60 * z ∧ a + 60 * z ≤ 253402300799) ∧
    ∃ y m d h mi s, r = (y, m, d, h, mi, s, z, 0) ∧ validB y m d h mi s z = true ∧ stampP y m d h mi s z = a)
theorem civil_both (T : Int) (t0 : -62135596800 ≤ T) (t1 : T ≤ 253402300799) : ∃ Y M D, (1 ≤ Y ∧ Y ≤ 9999 ∧ 1 ≤ M ∧ M ≤ 12 ∧ 1 ≤ D ∧ D ≤ lengthP Y M) ∧ daysP Y M D = T / 86400 ∧
    (∀ k, 20 ≤ k → moment_civil.f k (T / 86400 + 719162) = some (Y, M, D, 0, 0, 0, 0)) ∧
    (∀ k, 12000 ≤ k → ∀ h mi s z, postbagref2_At.l0 k (T / 86400 + 719162) 1 1 0 h mi s z = some (Y, M, D, h, mi, s, z, 0)) := by
  have d0 : dby 10000 = 3652059 := by decide
  have d1 : dby 1 = 0 := by decide
  generalize hN : T / 86400 + 719162 = N
  have n0 : 0 ≤ N ∧ N ≤ 3652058 := by omega
  obtain ⟨Y, y1, y2, y3, y4, y5⟩ := find_y 9998 1 N (by omega) (by omega) n0.1 (by omega)
  have e0 : N + dby 1 - dby Y = N - dby Y := by omega
  rw [e0] at y3 y4 y5
  have hc0 : cumN Y (1 - 1) = 0 := rfl
  obtain ⟨M, m1, m2, m3, m4, m5⟩ := find_m Y 11 1 (N - dby Y) (by omega) (by omega) y3 (by rw [cum12, hc0]; omega)
  rw [hc0] at m3 m4 m5
  refine ⟨Y, (M : Int), N - dby Y + 0 - cumN Y (M - 1) + 1, ⟨by omega, y2, by omega, by omega, by omega, by omega⟩, ?_, ?_, ?_⟩
  · unfold daysP
    rw [show ((M : Int) - 1).toNat = M - 1 from by omega]
    omega
  · intro k hk
    rw [civil_year k N Y n0.1 n0.2 y1 (by omega) (by omega)]
    exact (m5 k (by omega)).1
  · intro k hk h mi s z
    obtain ⟨k', e1, e2⟩ := y5 k (by omega)
    rw [e2]
    exact (m5 k' (by omega)).2 h mi s z
set_option maxHeartbeats 1000000 in
theorem at_both (a z : Int) : ∃ r, AtSpec a z r ∧ (∀ k, 30 ≤ k → moment_At.f k a z = some r) ∧ (∀ k, 20000 ≤ k → postbagref2_At.f k a z = some r) := by
  by_cases hz1 : z < -1439
  · refine ⟨_, .inl ⟨.inl hz1, rfl⟩, fun k hk => ?_, fun k hk => ?_⟩
    · obtain ⟨k, rfl⟩ : ∃ q, k = q + 1 := ⟨k - 1, by omega⟩
      unfold moment_At.f; rw [if_pos hz1]; simp only [moment_At.j0]; rfl
    · obtain ⟨k, rfl⟩ : ∃ q, k = q + 1 := ⟨k - 1, by omega⟩
      unfold postbagref2_At.f; rw [if_pos hz1]; simp only [postbagref2_At.j0]; rfl
  by_cases hz2 : z > 1439
  · refine ⟨_, .inl ⟨.inr hz2, rfl⟩, fun k hk => ?_, fun k hk => ?_⟩
    · obtain ⟨k, rfl⟩ : ∃ q, k = q + 1 := ⟨k - 1, by omega⟩
      unfold moment_At.f; rw [if_neg hz1]; simp only [moment_At.j0, decide_eq_true hz2]; rfl
    · obtain ⟨k, rfl⟩ : ∃ q, k = q + 1 := ⟨k - 1, by omega⟩
      unfold postbagref2_At.f; rw [if_neg hz1]; simp only [postbagref2_At.j0, decide_eq_true hz2]; rfl
  have hz3 : decide (z > 1439) = false := decide_eq_false hz2
  by_cases hT : a + 60 * z < -62135596800 ∨ 253402300799 < a + 60 * z
  · refine ⟨_, .inr (.inl ⟨⟨by omega, by omega⟩, hT, rfl⟩), fun k hk => ?_, fun k hk => ?_⟩
    · obtain ⟨k, rfl⟩ : ∃ q, k = q + 2 := ⟨k - 2, by omega⟩
      unfold moment_At.f; rw [if_neg hz1, hz3]; simp only [moment_At.j0]
      rw [if_neg (by decide)]
      by_cases h1 : a < -345600000000
      · rw [if_pos h1]; simp only [moment_At.j1]; rfl
      rw [if_neg h1]
      simp only [moment_At.j1]
      by_cases h2 : a > 345600000000
      · rw [if_pos (decide_eq_true h2)]
      rw [if_neg (by simpa using h2), w64 (60 * z) (by omega) (by omega), w64 (a + 60 * z) (by omega) (by omega), floor_f _ 86400 (by omega) (by omega) (by omega) (by omega)]
      simp only [Option.bind_some]
      by_cases h3 : (a + 60 * z) / 86400 < -719162
      · rw [if_pos h3]
      · rw [if_neg h3, if_pos (by omega)]
    · obtain ⟨k, rfl⟩ : ∃ q, k = q + 2 := ⟨k - 2, by omega⟩
      unfold postbagref2_At.f; rw [if_neg hz1, hz3]; simp only [postbagref2_At.j0]
      rw [if_neg (by decide)]
      by_cases h1 : a < -62135696800
      · rw [if_pos h1]; simp only [postbagref2_At.j1]; rfl
      rw [if_neg h1]
      by_cases h2 : a > 253402400799
      · rw [if_pos h2]; simp only [postbagref2_At.j1]; rfl
      rw [if_neg h2, w64 (60 * z) (by omega) (by omega), w64 (a + 60 * z) (by omega) (by omega)]
      by_cases h3 : a + 60 * z < -62135596800
      · rw [if_pos h3]; simp only [postbagref2_At.j1]; rfl
      rw [if_neg h3]
      simp only [postbagref2_At.j1]
      rw [if_pos (decide_eq_true (by omega))]
  have t0 : -62135596800 ≤ a + 60 * z := by omega
  have t1 : a + 60 * z ≤ 253402300799 := by omega
  obtain ⟨Y, M, D, hd, hdp, p1, p2⟩ := civil_both (a + 60 * z) t0 t1
  generalize hTT : a + 60 * z = T at *
  have hv : validB Y M D (T % 86400 / 3600) (T % 86400 / 60 % 60) (T % 60) z = true :=
    (valid_iff _ _ _ _ _ _ _).2 ⟨(isDay_iff _ _ _).2 hd, (time_iff _ _ _ _).2 ⟨by omega, by omega, by omega, by omega, by omega, by omega, by omega, by omega⟩⟩
  refine ⟨_, .inr (.inr ⟨⟨by omega, by omega⟩, ⟨by omega, by omega⟩, Y, M, D, T % 86400 / 3600, T % 86400 / 60 % 60, T % 60, rfl, hv, ?_⟩), fun k hk => ?_, fun k hk => ?_⟩
  · unfold stampP
    rw [if_pos hv, hdp]
    omega
  · obtain ⟨k, rfl⟩ : ∃ q, k = q + 2 := ⟨k - 2, by omega⟩
    unfold moment_At.f; rw [if_neg hz1, hz3]; simp only [moment_At.j0]
    rw [if_neg (by decide), if_neg (by omega)]
    simp only [moment_At.j1]
    rw [if_neg (by simp; omega), w64 (60 * z) (by omega) (by omega), hTT, w64 T (by omega) (by omega), floor_f _ 86400 (by omega) (by omega) (by omega) (by omega)]
    simp only [Option.bind_some]
    rw [if_neg (by omega), if_neg (by omega), w64 (T / 86400 + 719162) (by omega) (by omega), p1 k (by omega)]
    simp only [Option.bind_some]
    have m0 := Int.emod_nonneg T (show (86400 : Int) ≠ 0 by omega)
    rw [Int.tdiv_eq_ediv_of_nonneg m0, Int.tdiv_eq_ediv_of_nonneg m0, Int.tmod_eq_emod_of_nonneg m0, w64 (T % 86400 / 3600) (by omega) (by omega), w64 (T % 86400 / 60) (by omega) (by omega), Int.tmod_eq_emod_of_nonneg (by omega), show T % 86400 % 60 = T % 60 from by omega]
  · obtain ⟨k, rfl⟩ : ∃ q, k = q + 2 := ⟨k - 2, by omega⟩
    unfold postbagref2_At.f; rw [if_neg hz1, hz3]; simp only [postbagref2_At.j0]
    rw [if_neg (by decide), if_neg (by omega), if_neg (by omega), w64 (60 * z) (by omega) (by omega), hTT, w64 T (by omega) (by omega), if_neg (by omega)]
    simp only [postbagref2_At.j1]
    rw [if_neg (by simp; omega), w64 (60 * z) (by omega) (by omega), hTT, w64 T (by omega) (by omega), show T - -62135596800 = T + 62135596800 from by omega, w64 (T + 62135596800) (by omega) (by omega)]
    have m0 : 0 ≤ T + 62135596800 := by omega
    rw [Int.tdiv_eq_ediv_of_nonneg m0, Int.tmod_eq_emod_of_nonneg m0, Int.tmod_eq_emod_of_nonneg m0]
    have q1 : (T + 62135596800) / 86400 = T / 86400 + 719162 := by omega
    have q2 : (T + 62135596800) % 86400 = T % 86400 := by omega
    have q3 : (T + 62135596800) % 60 = T % 60 := by omega
    rw [q1, q2, q3, w64 (T / 86400 + 719162) (by omega) (by omega)]
    have m1 := Int.emod_nonneg T (show (86400 : Int) ≠ 0 by omega)
    rw [Int.tdiv_eq_ediv_of_nonneg m1, Int.tdiv_eq_ediv_of_nonneg m1, w64 (T % 86400 / 3600) (by omega) (by omega), w64 (T % 86400 / 60) (by omega) (by omega), Int.tmod_eq_emod_of_nonneg (by omega), p2 k (by omega)]
end Go.Proofs.YtjlchnmpebdggaaDoor.Mo
end
section
namespace Go.Proofs.YtjlchnmpebdggaaDoor.Mo
open Go.RowKit Go.Proofs.YtjlchnmpebdggaaDoorW.PrintWords
theorem cum_mono (y : Int) (n : Nat) : ∀ j : Nat, n + j ≤ 12 → cumN y n ≤ cumN y (n + j) := by
  intro j
  induction j with
  | zero => intro _; exact Int.le_refl _
  | succ j ih =>
    intro h
    have h1 := ih (by omega)
    have h2 := cum_step y (n + (j + 1)) (by omega)
    have h3 := length_range y ((n + (j + 1) : Nat) : Int) (by omega) (by omega)
    rw [show n + (j + 1) - 1 = n + j from by omega] at h2
    omega
theorem day_in {y m d : Int} (a3 : 1 ≤ m) (a4 : m ≤ 12) (a5 : 1 ≤ d) (a6 : d ≤ lengthP y m) : 0 ≤ cumN y (m - 1).toNat + d - 1 ∧ cumN y (m - 1).toNat + d - 1 < yearLen y := by
  have h1 := cumN_range y (m - 1).toNat (by omega)
  have h2 := cum_step y m.toNat (by omega)
  have h3 := cum_mono y m.toNat (12 - m.toNat) (by omega)
  rw [show m.toNat + (12 - m.toNat) = 12 from by omega, cum12] at h3
  rw [show m.toNat - 1 = (m - 1).toNat from by omega, show ((m.toNat : Nat) : Int) = m from by omega] at h2
  omega
theorem day_unique {y m d y' m' d' : Int} (h : 1 ≤ y ∧ y ≤ 9999 ∧ 1 ≤ m ∧ m ≤ 12 ∧ 1 ≤ d ∧ d ≤ lengthP y m) (h' : 1 ≤ y' ∧ y' ≤ 9999 ∧ 1 ≤ m' ∧ m' ≤ 12 ∧ 1 ≤ d' ∧ d' ≤ lengthP y' m') (e : daysP y m d = daysP y' m' d') : y = y' ∧ m = m' ∧ d = d' := by
  obtain ⟨a1, a2, a3, a4, a5, a6⟩ := h
  obtain ⟨b1, b2, b3, b4, b5, b6⟩ := h'
  have i1 := day_in a3 a4 a5 a6
  have i2 := day_in b3 b4 b5 b6
  unfold daysP at e
  have ey : y = y' := year_unique (N := dby y + cumN y (m - 1).toNat + d - 1) a1 b1 (by omega) (by omega) (by omega) (by omega)
  subst ey
  have key : ∀ m m' d d' : Int, 1 ≤ m → m ≤ 12 → 1 ≤ m' → m' ≤ 12 → 1 ≤ d → d ≤ lengthP y m → 1 ≤ d' → cumN y (m - 1).toNat + d = cumN y (m' - 1).toNat + d' → ¬ m < m' := by
    intro m m' d d' c1 c2 c3 c4 c5 c6 c7 e hlt
    have h2 := cum_step y m.toNat (by omega)
    rw [show m.toNat - 1 = (m - 1).toNat from by omega, show ((m.toNat : Nat) : Int) = m from by omega] at h2
    have h3 := cum_mono y m.toNat ((m' - 1).toNat - m.toNat) (by omega)
    rw [show m.toNat + ((m' - 1).toNat - m.toNat) = (m' - 1).toNat from by omega] at h3
    omega
  have k1 := key m m' d d' a3 a4 b3 b4 a5 a6 b5 (by omega)
  have k2 := key m' m d' d b3 b4 a3 a4 b5 b6 a5 (by omega)
  have em : m = m' := by omega
  subst em
  exact ⟨rfl, rfl, by omega⟩
theorem days_in {y m d : Int} (h : 1 ≤ y ∧ y ≤ 9999 ∧ 1 ≤ m ∧ m ≤ 12 ∧ 1 ≤ d ∧ d ≤ lengthP y m) : -719162 ≤ daysP y m d ∧ daysP y m d ≤ 2932896 := by
  obtain ⟨a1, a2, a3, a4, a5, a6⟩ := h
  have i1 := day_in a3 a4 a5 a6
  have h1 := dby_range y a1 (by omega)
  have h2 := dby_mono (show y + 1 ≤ 10000 by omega)
  rw [dby_succ y a1] at h2
  have d0 : dby 10000 = 3652059 := by decide
  unfold daysP
  omega
theorem stamp_unique {y m d h mi s z y' m' d' h' mi' s' : Int} (hv : validB y m d h mi s z = true) (hv' : validB y' m' d' h' mi' s' z = true) (e : stampP y m d h mi s z = stampP y' m' d' h' mi' s' z) :
    y = y' ∧ m = m' ∧ d = d' ∧ h = h' ∧ mi = mi' ∧ s = s' := by
  obtain ⟨f1, g1⟩ := valid_facts hv
  obtain ⟨f2, g2⟩ := valid_facts hv'
  unfold stampP at e
  rw [if_pos hv, if_pos hv'] at e
  obtain ⟨e1, e2, e3⟩ := day_unique f1 f2 (by omega)
  rw [← e1, ← e2, ← e3] at e
  exact ⟨e1, e2, e3, by omega, by omega, by omega⟩
theorem at_back {y m d h mi s z : Int} (hv : validB y m d h mi s z = true) (k : Nat) (hk : 30 ≤ k) : moment_At.f k (stampP y m d h mi s z) z = some (y, m, d, h, mi, s, z, 0) := by
  obtain ⟨r, hs, h1, _⟩ := at_both (stampP y m d h mi s z) z
  rw [h1 k hk]
  obtain ⟨f1, g1⟩ := valid_facts hv
  have hd := days_in f1
  have hst : stampP y m d h mi s z = 86400 * daysP y m d + 3600 * h + 60 * mi + s - 60 * z := by unfold stampP; rw [if_pos hv]
  rcases hs with ⟨hz, _⟩ | ⟨_, hr, _⟩ | ⟨_, _, y', m', d', h', mi', s', rfl, hv', he⟩
  · omega
  · omega
  · obtain ⟨rfl, rfl, rfl, rfl, rfl, rfl⟩ := stamp_unique hv hv' he.symm
    rfl
theorem stamp_next {y m d h mi s z : Int} (hv : validB y m d h mi s z = true) (hs : s ≠ 59) : stampP y m d h mi (s + 1) z = stampP y m d h mi s z + 1 := by
  obtain ⟨f1, g1⟩ := valid_facts hv
  have hv' : validB y m d h mi (s + 1) z = true := (valid_iff _ _ _ _ _ _ _).2 ⟨(isDay_iff _ _ _).2 f1, (time_iff _ _ _ _).2 ⟨by omega, by omega, by omega, by omega, by omega, by omega, by omega, by omega⟩⟩
  unfold stampP
  rw [if_pos hv, if_pos hv']
  omega
end Go.Proofs.YtjlchnmpebdggaaDoor.Mo
end
section
namespace Go.Proofs.YtjlchnmpebdggaaDoor.Mo
open Go.RowKit Go.Proofs.YtjlchnmpebdggaaDoorW.PrintWords
end Go.Proofs.YtjlchnmpebdggaaDoor.Mo
end
section
namespace Go.Proofs.YtjlchnmpebdggaaDoor.Mo
open Go.RowKit Go.Proofs.YtjlchnmpebdggaaDoorW.PrintWords
theorem eqA23 (d : Nat) (w : World) (x0 y0 : Int) (x1 y1 : Int) (x2 y2 : Int) (x3 y3 : Int) (x4 y4 : Int) (x5 y5 : Int) (x6 y6 : Int) :
    (Op.equalIn (d + 2) 23 (.agg #[.int .i64 x0, .int .i64 x1, .int .i64 x2, .int .i64 x3, .int .i64 x4, .int .i64 x5, .int .i64 x6]) (.agg #[.int .i64 y0, .int .i64 y1, .int .i64 y2, .int .i64 y3, .int .i64 y4, .int .i64 y5, .int .i64 y6])).run Tryd.prog w = .ok (x0 == y0 && (x1 == y1 && (x2 == y2 && (x3 == y3 && (x4 == y4 && (x5 == y5 && (x6 == y6))))))) w := by
  refine eqA_of Tryd.underlying23 (by kernel_rfl) ?_
  refine eqf_cons (by rfl) (by go_simp; rfl) (by go_simp; rfl) (by go_simp) ?_
  refine eqf_cons (by rfl) (by go_simp; rfl) (by go_simp; rfl) (by go_simp) ?_
  refine eqf_cons (by rfl) (by go_simp; rfl) (by go_simp; rfl) (by go_simp) ?_
  refine eqf_cons (by rfl) (by go_simp; rfl) (by go_simp; rfl) (by go_simp) ?_
  refine eqf_cons (by rfl) (by go_simp; rfl) (by go_simp; rfl) (by go_simp) ?_
  refine eqf_cons (by rfl) (by go_simp; rfl) (by go_simp; rfl) (by go_simp) ?_
  exact eqf_last (by rfl) (by go_simp; rfl) (by go_simp; rfl) (by go_simp)
end Go.Proofs.YtjlchnmpebdggaaDoor.Mo
end
section
namespace Go.Proofs.YtjlchnmpebdggaaDoor.Mo
open Go.RowKit Go.Proofs.YtjlchnmpebdggaaDoorW.PrintWords
def up (c : UInt8) : UInt8 := if 97 ≤ c ∧ c ≤ 122 then c - 32 else c
def upTo (l : List UInt8) (k : Nat) : List UInt8 := (l.take k).map up ++ l.drop k
def upperP (s : ByteArray) : ByteArray := ⟨(s.data.toList.map up).toArray⟩
theorem upTo_get (l : List UInt8) (k j : Nat) : (upTo l k)[j]? = if j < k then l[j]?.map up else l[j]? := by
  unfold upTo
  by_cases h : j < k
  · rw [if_pos h]
    by_cases hj : j < l.length
    · rw [List.getElem?_append_left (by simp; omega), List.getElem?_map, List.getElem?_take, if_pos h]
    · rw [List.getElem?_append_right (by simp; omega), List.getElem?_drop, List.getElem?_eq_none (by simp; omega), List.getElem?_eq_none (by omega)]; rfl
  · rw [if_neg h]
    by_cases hj : k ≤ l.length
    · rw [List.getElem?_append_right (by simp; omega), List.getElem?_drop]
      congr 1
      simp
      omega
    · rw [List.getElem?_eq_none (by simp; omega), List.getElem?_eq_none (by omega)]
theorem upTo_all (l : List UInt8) : upTo l l.length = l.map up := by simp [upTo]
theorem up_small (c : UInt8) (h : 97 ≤ c.toNat) (h2 : c.toNat ≤ 122) : ((up c).toNat : Int) = (c.toNat : Int) - 32 := by
  have e : (97 : UInt8) ≤ c ∧ c ≤ 122 := ⟨UInt8.le_iff_toNat_le.2 h, UInt8.le_iff_toNat_le.2 h2⟩
  unfold up
  rw [if_pos e, UInt8.toNat_sub_of_le _ _ (UInt8.le_iff_toNat_le.2 (by show 32 ≤ _; omega))]
  show ((c.toNat - 32 : Nat) : Int) = _
  omega
theorem up_else (c : UInt8) (h : ¬ (97 ≤ c.toNat ∧ c.toNat ≤ 122)) : up c = c := by
  unfold up
  rw [if_neg]
  rintro ⟨h1, h2⟩
  exact h ⟨UInt8.le_iff_toNat_le.1 h1, UInt8.le_iff_toNat_le.1 h2⟩
theorem upperP_size (s : ByteArray) : (upperP s).size = s.size := by show (s.data.toList.map up).toArray.size = _; simp
set_option maxHeartbeats 1000000 in
theorem upper_calls (a : ByteArray) (w : World) (ha : a.size ≤ 140737488351232) :
    Calls Tryd.prog 94 #[.string a] w fun e w' => e = .returned (.string (upperP a)) ∧ Below w.heap.size w w' := by
  have hcv := fun w => run_bytes_of_string (P := Tryd.prog) w 9 58 5 a Tryd.underlying9 Tryd.underlying58 Tryd.underlying5
  go_enter Tryd.func94, Tryd.ntmps94
  go_wp2_with fail
  have cell0 : ∀ (j : Nat) (b : UInt8), a.data.toList[j]? = some b → (w.alloc (Obj.cells (bytesRow a (grownCap w a.size 0 5)) 5 ((bytesRow a (grownCap w a.size 0 5)).size, (bytesRow a (grownCap w a.size 0 5)).size + 1))).drew.cell? ⟨w.heap.size, j, none⟩ = some (.int .u8 b.toNat) := fun j b hj => by
    have hlt := (List.getElem?_eq_some_iff.1 hj).1
    rw [List.getElem?_eq_getElem hlt] at hj
    have hj := Option.some.inj hj
    refine (World.cell?_alloc_mark w _ _ _ j).trans ?_
    rw [bytesRow_at a _ j (by simpa using hlt)]
    rw [← hj]
    rfl
  have frz0 : ∀ j : Nat, j < a.size → (w.alloc (Obj.cells (bytesRow a (grownCap w a.size 0 5)) 5 ((bytesRow a (grownCap w a.size 0 5)).size, (bytesRow a (grownCap w a.size 0 5)).size + 1))).drew.frozen? ⟨w.heap.size, j, none⟩ = false := fun j hj => by
    refine (World.frozen?_alloc_mark w _ _ _ _ j).trans ?_
    have : (bytesRow a (grownCap w a.size 0 5)).size ≥ a.size := by unfold bytesRow; simp
    rw [decide_eq_false (by omega), Bool.false_and]
  have bel0 : Below w.heap.size w (w.alloc (Obj.cells (bytesRow a (grownCap w a.size 0 5)) 5 ((bytesRow a (grownCap w a.size 0 5)).size, (bytesRow a (grownCap w a.size 0 5)).size + 1))).drew := ((Below.refl _ w).alloc (Nat.le_refl _) _).drew
  generalize (w.alloc (Obj.cells (bytesRow a (grownCap w a.size 0 5)) 5 ((bytesRow a (grownCap w a.size 0 5)).size, (bytesRow a (grownCap w a.size 0 5)).size + 1))).drew = w0 at *
  generalize hcap : grownCap w a.size 0 5 = cap at *
  clear hcv hcap
  go_loopw [10] (fun n wr => ∃ k : Nat, k ≤ a.size ∧ n = .int .i64 k ∧ (∀ (j : Nat) (b : UInt8), (upTo a.data.toList k)[j]? = some b → wr.cell? ⟨w.heap.size, j, none⟩ = some (.int .u8 b.toNat)) ∧
      (∀ j : Nat, j < a.size → wr.frozen? ⟨w.heap.size, j, none⟩ = false) ∧ Below w.heap.size w wr) (fun n _ => a.size - (intOf n).toNat)
  case atStart => exact ⟨0, by omega, rfl, fun j b hj => cell0 j b (by simpa [upTo] using hj), frz0, bel0⟩
  case round =>
    obtain ⟨k, hk, rfl, hc, hf, hB⟩ := hrel
    have HC := Lib.hid hc
    have HF := Lib.hid hf
    have HB := Lib.hid hB
    clear cell0 frz0 bel0 hc hf hB
    by_cases hlt : k < a.size
    · have hlen : k < a.data.toList.length := by simpa using hlt
      obtain ⟨b, hb⟩ : ∃ b, a.data.toList[k]? = some b := ⟨_, List.getElem?_eq_getElem hlen⟩
      have hget : (upTo a.data.toList k)[k]? = some b := by rw [upTo_get, if_neg (by omega), hb]
      have hc := HC.out k b hget
      have hf := HF.out k hlt
      have HBB := Lib.hid hb
      have hb8 := b.toNat_lt
      clear hget hb
      by_cases hs : 97 ≤ b.toNat ∧ b.toNat ≤ 122
      · obtain ⟨h1, h2⟩ := hs
        have hup := up_small b h1 h2
        have d1 : decide ((97 : Int) ≤ (b.toNat : Int)) = true := decide_eq_true (by omega)
        have d2 : decide ((b.toNat : Int) ≤ 122) = true := decide_eq_true (by omega)
        go_wp2
        go_roundw
        case rel =>
          refine ⟨k + 1, by omega, by go_num, ?_, ?_, (HB.out.setCell (by simp) _)⟩
          · intro j b' hj
            rw [upTo_get] at hj
            by_cases q : k = j
            · subst q
              rw [if_pos (by omega), HBB.out] at hj
              obtain rfl := Option.some.inj hj
              rw [hup]
              exact World.cell?_setCell_same _ _ _ hc
            · refine (World.cell?_setCell_other _ _ _ _ (fun e => q (congrArg Addr.off e))).trans (HC.out j b' ?_)
              rw [upTo_get]
              by_cases q2 : j < k
              · rw [if_pos (by omega)] at hj; rw [if_pos q2]; exact hj
              · rw [if_neg (by omega)] at hj; rw [if_neg q2]; exact hj
          · intro j hj
            rw [World.frozen?_setCell]
            exact HF.out j hj
        case measure => simp [intOf]; omega
      · have hup := up_else b hs
        have rel : ∃ k_1 : Nat, k_1 ≤ a.size ∧ Value.int .i64 ((k : Int) + 1) = .int .i64 k_1 ∧ (∀ (j : Nat) (b : UInt8), (upTo a.data.toList k_1)[j]? = some b → wr.cell? ⟨w.heap.size, j, none⟩ = some (.int .u8 b.toNat)) ∧
            (∀ j : Nat, j < a.size → wr.frozen? ⟨w.heap.size, j, none⟩ = false) ∧ Below w.heap.size w wr := by
          refine ⟨k + 1, by omega, by go_num, ?_, HF.out, HB.out⟩
          intro j b' hj
          refine HC.out j b' ?_
          rw [upTo_get] at hj ⊢
          by_cases q : k = j
          · subst q
            rw [if_pos (by omega), HBB.out] at hj
            rw [if_neg (by omega), HBB.out]
            rw [← hj]
            simp [hup]
          · by_cases q2 : j < k
            · rw [if_pos (by omega)] at hj; rw [if_pos q2]; exact hj
            · rw [if_neg (by omega)] at hj; rw [if_neg q2]; exact hj
        have REL := Lib.hid rel
        clear rel
        by_cases h1 : 97 ≤ b.toNat
        · have d1 : decide ((97 : Int) ≤ (b.toNat : Int)) = true := decide_eq_true (by omega)
          have d2 : decide ((b.toNat : Int) ≤ 122) = false := decide_eq_false (by omega)
          go_wp2
          go_roundw
          case rel => exact REL.out
          case measure => simp [intOf]; omega
        · have d1 : decide ((97 : Int) ≤ (b.toNat : Int)) = false := decide_eq_false (by omega)
          go_wp2
          go_roundw
          case rel => exact REL.out
          case measure => simp [intOf]; omega
    · obtain rfl : k = a.size := by omega
      have hal : a.data.toList.length = a.size := by simp
      have hback : (convert 58 9 (.slice (some ⟨w.heap.size, 0, none⟩) a.size cap)).run Tryd.prog wr = .ok (.string (upperP a)) wr := by
        have HL : a.size = (a.data.toList.map up).length := by rw [List.length_map, hal]
        rw [HL]
        exact run_convert_bytes_back (P := Tryd.prog) wr 58 9 5 ⟨w.heap.size, 0, none⟩ cap (a.data.toList.map up) Tryd.underlying58 Tryd.underlying5 Tryd.underlying9 (fun j hj => by
          rw [add_plain]
          refine HC.out j _ ?_
          rw [← hal, upTo_all]
          exact List.getElem?_eq_getElem hj)
      go_wp2
      go_ret
      exact ⟨rfl, HB.out⟩
end Go.Proofs.YtjlchnmpebdggaaDoor.Mo
end
section
namespace Go.Proofs.YtjlchnmpebdggaaDoor.Mo
open Go.RowKit Go.Proofs.YtjlchnmpebdggaaDoorW.PrintWords
def placeP (t : ByteArray) : List ByteArray → Nat → Int
  | [], _ => -1
  | x :: r, k => if (upperP x).toList = (upperP t).toList then k else placeP t r (k + 1)
set_option maxHeartbeats 1000000 in
theorem place_calls (l : List ByteArray) (b cap : Nat) (s : ByteArray) (w : World) (hs : s.size ≤ 140737488351232) (hl : l.length ≤ 1000) (hx : ∀ x ∈ l, x.size ≤ 1000)
    (hc : ∀ j x, l[j]? = some x → w.cell? ⟨b, j, none⟩ = some (.string x)) (hb : b < w.heap.size) :
    Calls Tryd.prog 92 #[.slice (some ⟨b, 0, none⟩) l.length cap, .string s] w fun e w' => e = .returned (.int .i64 (placeP s l 0)) ∧ Below w.heap.size w w' := by
  have HX := Lib.hid hx
  have HC := Lib.hid hc
  clear hx hc
  go_enter Tryd.func92, Tryd.ntmps92
  go_wp2_with fail
  refine (upper_calls s _ hs).mono ?_
  rintro e w1 ⟨rfl, hB1⟩
  go_wp2_with fail
  go_loopw [11] (fun n wr => ∃ k : Nat, k ≤ l.length ∧ n = .int .i64 k ∧ placeP s l 0 = placeP s (l.drop k) k ∧ Below w.heap.size w wr) (fun n _ => l.length - (intOf n).toNat)
  case atStart => exact ⟨0, by omega, rfl, rfl, hB1⟩
  case round =>
    obtain ⟨k, hk, rfl, hp, hB⟩ := hrel
    have HB := Lib.hid hB
    have HP := Lib.hid hp
    have hsz := hB.size
    clear hB hp hB1
    by_cases hlt : k < l.length
    · have hc : wr.cell? ⟨b, k, none⟩ = some (.string l[k]) := (HB.out.cell (p := ⟨b, k, none⟩) hb).trans (HC.out k _ (List.getElem?_eq_getElem hlt))
      have hxs := HX.out l[k] (List.getElem_mem hlt)
      have hd : Hid (l.drop k = l[k] :: l.drop (k + 1)) := by show l.drop k = _; exact List.drop_eq_getElem_cons hlt
      generalize l[k] = x at *
      have hq : Hid (placeP s l 0 = if (upperP x).toList = (upperP s).toList then (k : Int) else placeP s (l.drop (k + 1)) (k + 1)) := by
        show placeP s l 0 = _; rw [HP.out, hd.out]; rfl
      by_cases he : (upperP x).toList = (upperP s).toList
      · have HE := Lib.hid he
        have hz : ((upperP x).toList == (upperP s).toList) = true := beq_iff_eq.2 he
        clear he
        go_wp2_with (go_at_call 94; refine (upper_calls _ _ (by omega)).mono ?_; rintro e w2 ⟨rfl, hB2⟩)
        go_ret
        exact ⟨by rw [hq.out, if_pos HE.out]; rfl, HB.out.trans (hB2.mono hsz)⟩
      · have HE := Lib.hid he
        have hz : ((upperP x).toList == (upperP s).toList) = false := beq_eq_false_iff_ne.2 he
        clear he
        go_wp2_with (go_at_call 94; refine (upper_calls _ _ (by omega)).mono ?_; rintro e w2 ⟨rfl, hB2⟩)
        go_roundw
        case rel => exact ⟨k + 1, by omega, by go_num, by rw [hq.out, if_neg HE.out], HB.out.trans (hB2.mono hsz)⟩
        case measure => simp [intOf]; omega
    · obtain rfl : k = l.length := by omega
      go_wp2
      go_ret
      exact ⟨by rw [HP.out, List.drop_length]; rfl, HB.out⟩
end Go.Proofs.YtjlchnmpebdggaaDoor.Mo
end
section
namespace Go.Proofs.YtjlchnmpebdggaaDoor.Mo
open Go.RowKit Go.Proofs.YtjlchnmpebdggaaDoorW.PrintWords
def dayP (d : Int) (s : ByteArray) : Int × Int × Int × Bool :=
  if s.size = 9 ∧ bt s 0 = 45 ∧ bt s 4 = 45 then
    ((digitsP (s.extract 5 9)).1, placeP (s.extract 1 4) monthL 0 + 1, d, (digitsP (s.extract 5 9)).2 && decide (0 ≤ placeP (s.extract 1 4) monthL 0))
  else (0, 0, 0, false)
def moment_day.f (d : Int) (s : ByteArray) : Option (Int × Int × Int × Int × Int × Int × Int × Bool) :=
  some ((dayP d s).1, (dayP d s).2.1, (dayP d s).2.2.1, 0, 0, 0, 0, (dayP d s).2.2.2)
theorem placeP_range (t : ByteArray) : ∀ (l : List ByteArray) (k : Nat), -1 ≤ placeP t l k ∧ placeP t l k < k + l.length
  | [], k => by unfold placeP; simp; omega
  | x :: r, k => by
    unfold placeP
    have := placeP_range t r (k + 1)
    rw [List.length_cons]
    split <;> omega
set_option maxHeartbeats 1000000 in
set_option maxRecDepth 100000 in
theorem day_calls (d : Int) (s : ByteArray) (w : World) :
    Calls Tryd.prog 69 #[.int .i64 d, .string s] w fun e w' => e = .returned (.tuple #[.agg #[.int .i64 (dayP d s).1, .int .i64 (dayP d s).2.1, .int .i64 (dayP d s).2.2.1, .int .i64 0, .int .i64 0, .int .i64 0, .int .i64 0], .bool (dayP d s).2.2.2]) ∧ Below w.heap.size w w' := by
  by_cases hs : s.size = 9 ∧ bt s 0 = 45 ∧ bt s 4 = 45
  · obtain ⟨⟨D1, D2⟩, hD⟩ : ∃ D, digitsP (s.extract 5 9) = D := ⟨_, rfl⟩
    obtain ⟨P, hP⟩ : ∃ P, placeP (s.extract 1 4) monthL 0 = P := ⟨_, rfl⟩
    have hp : dayP d s = (D1, P + 1, d, D2 && decide (0 ≤ P)) := by unfold dayP; rw [if_pos hs, hD, hP]
    have hr := placeP_range (s.extract 1 4) monthL 0
    rw [hP] at hr
    rw [hp]
    dsimp only
    obtain ⟨h9, h0, h4⟩ := hs
    have hb0 : 0 < s.size := by omega
    have hb4 : 4 < s.size := by omega
    have e0 : ((s[0]'hb0).toNat : Int) = 45 := by rw [← h0]; exact bt_at s 0 (by simp; omega)
    have e4 : ((s[4]'hb4).toNat : Int) = 45 := by rw [← h4]; exact bt_at s 4 (by simp; omega)
    have g9 : ((s.size : Int) != 9) = false := by rw [bne_eq_false_iff_eq]; omega
    have hx1 : (s.extract 1 4).size = 3 := by rw [ByteArray.size_extract]; omega
    have hdig : moment_digits.f 7 (s.extract 5 9) = some (D1, D2) := by rw [digits_f 7 (by omega), hD]
    have hr0 : -1 ≤ P := hr.1
    have hr1 : P < 12 := hr.2
    have hse : s.extract 5 s.size = s.extract 5 9 := by rw [h9]
    have HP := Lib.hid hP
    have HD := Lib.hid hdig
    have HX := Lib.hid hx1
    have hP1 : wrap64 (P + 1) = P + 1 := IntWalk.wrap64_in _ ⟨by omega, by omega⟩
    have HSE := Lib.hid hse
    clear hP hD hp hr h0 h4 hdig hx1 hse
    have hb9 : 9 ≤ s.size := by omega
    have hb9' : s.size ≤ 9 := by omega
    have H9 := Lib.hid h9
    clear h9
    have hsl : ∀ w', (Instr.slice 9 (.string s) (some (.int .i64 1)) (some (.int .i64 4)) none).run Tryd.prog w' = .ok (.string (s.extract 1 4)) w' := fun w' => by
      rw [run_slice_string (P := Tryd.prog) w' 9 s .i64 .i64 1 4 Tryd.underlying9 (by omega) (by omega) (by omega)]; rfl
    generalize s.extract 1 4 = T at *
    go_enter Tryd.func69, Tryd.ntmps69
    go_wp2_with fail
    refine (months_calls _).mono ?_
    rintro e w1 ⟨rfl, hb1⟩
    go_wp2_with fail
    have hrow := heap_alloc_new w1 (.cells (monthL.map Value.string).toArray 71)
    have hbel : Below w.heap.size w (w1.alloc (.cells (monthL.map Value.string).toArray 71)) := below_alloc (below_step (below_alloc (Below.refl _ w) _) hb1) _
    obtain ⟨g, hg⟩ : ∃ g, w1.heap.size = g := ⟨_, rfl⟩
    have hbox : (w1.alloc (.cells (monthL.map Value.string).toArray 71)).heap[w.heap.size]? = some (.cells #[.int .i64 0, .int .i64 0, .int .i64 0, .int .i64 0, .int .i64 0, .int .i64 0, .int .i64 0] 23 (0, 0)) := by
      have := hb1.size
      rw [Below.heap_alloc _ _ _ (by simp at this; omega), hb1.block _ (by simp)]; exact heap_alloc_new _ _
    obtain ⟨w2, hw2⟩ : ∃ w2, w1.alloc (.cells (monthL.map Value.string).toArray 71) = w2 := ⟨_, rfl⟩
    rw [hw2] at hrow hbel hbox
    rw [hg] at hrow ⊢
    rw [show w1.alloc (Obj.cells #[Value.string ⟨#[74, 97, 110]⟩, .string ⟨#[70, 101, 98]⟩, .string ⟨#[77, 97, 114]⟩, .string ⟨#[65, 112, 114]⟩, .string ⟨#[77, 97, 121]⟩, .string ⟨#[74, 117, 110]⟩, .string ⟨#[74, 117, 108]⟩, .string ⟨#[65, 117, 103]⟩, .string ⟨#[83, 101, 112]⟩, .string ⟨#[79, 99, 116]⟩, .string ⟨#[78, 111, 118]⟩, .string ⟨#[68, 101, 99]⟩] 71) = w2 from hw2]
    have hglt : g < w2.heap.size := (Array.getElem?_eq_some_iff.1 hrow).1
    have HROW := Lib.hid hrow
    have HBEL := Lib.hid hbel
    have HP1 := Lib.hid hP1
    have hblt : w.heap.size < w2.heap.size := (Array.getElem?_eq_some_iff.1 hbox).1
    have HBOX := Lib.hid hbox
    clear hrow hbel hw2 hg hbox hb1 hP1
    go_region_with (go_at_call 92; refine (place_calls monthL g 12 T _ (by rw [HX.out]; omega) (by decide) month_small (fun j x hx => month_cells (by exact HROW.out) j x hx) (by exact hglt)).mono ?_; rw [HP.out]; rintro e w3 ⟨rfl, hb3⟩; have HB3 := Lib.hid (below_step (below_drew HBEL.out) hb3); have HBX := Lib.hid ((hb3.block w.heap.size (by exact hblt)).trans HBOX.out); clear hb3)
    obtain ⟨⟨c0, c1, c2, c3, c4, c5, c6⟩, fz⟩ := cells7 HBX.out
    have z0 := fz 0
    have z1 := fz 1
    have z2 := fz 2
    have z3 := fz 3
    have z4 := fz 4
    have z5 := fz 5
    have z6 := fz 6
    clear fz
    go_wp2_with (go_at_call 68; rw [HSE.out]; refine (moment_digits.calls 7 _ _ _ _ HD.out).mono ?_; rintro e w4 ⟨rfl, ⟨nd, rfl⟩⟩)
    · rename_i hD
      refine bodyPost_ret (results_ct rfl _ _ w.heap.size 23 #[.int .i64 D1, .int .i64 (P + 1), .int .i64 d, .int .i64 0, .int .i64 0, .int .i64 0, .int .i64 0] (0, 0) _ rfl (set7 (w := w3.drewN nd) HBX.out _ _ _ _ _ _ _).1 Tryd.underlying23 rfl (by kernel_rfl)) rfl ⟨?_, (set7 (w := w3.drewN nd) HBX.out _ _ _ _ _ _ _).2 _ _ (pw_below_drewN HB3.out nd) (Nat.le_refl _)⟩
      rw [hD, Bool.true_and]
      rfl
    · rename_i hD
      refine bodyPost_ret (results_ct rfl _ _ w.heap.size 23 #[.int .i64 D1, .int .i64 (P + 1), .int .i64 d, .int .i64 0, .int .i64 0, .int .i64 0, .int .i64 0] (0, 0) _ rfl (set7 (w := w3.drewN nd) HBX.out _ _ _ _ _ _ _).1 Tryd.underlying23 rfl (by kernel_rfl)) rfl ⟨?_, (set7 (w := w3.drewN nd) HBX.out _ _ _ _ _ _ _).2 _ _ (pw_below_drewN HB3.out nd) (Nat.le_refl _)⟩
      rw [Bool.eq_false_iff.2 hD, Bool.false_and]
      rfl
  · have hp : dayP d s = (0, 0, 0, false) := by unfold dayP; rw [if_neg hs]
    rw [hp]
    by_cases h9 : s.size = 9
    · have g9 : ((s.size : Int) != 9) = false := by rw [bne_eq_false_iff_eq]; omega
      by_cases h0 : bt s 0 = 45
      · have h4 : ¬ bt s 4 = 45 := fun h => hs ⟨h9, h0, h⟩
        have e0 : ((s[0]'(by omega)).toNat : Int) = 45 := by rw [← h0]; exact bt_at s 0 (by simp; omega)
        have e4 : (((s[4]'(by omega)).toNat : Int) != 45) = true := by rw [bne_iff_ne]; intro h; exact h4 (by rw [← h]; exact (bt_at s 4 (by simp; omega)).symm)
        clear hs hp h0 h4
        go_enter Tryd.func69, Tryd.ntmps69
        go_wp2
        exact bodyPost_ret (v := .tuple #[.agg #[.int .i64 0, .int .i64 0, .int .i64 0, .int .i64 0, .int .i64 0, .int .i64 0, .int .i64 0], .bool false]) (by simp [results, Tryd.results69, go_sem]) rfl ⟨rfl, (Below.refl _ _).alloc (Nat.le_refl _) _⟩
      · have e0 : (((s[0]'(by omega)).toNat : Int) != 45) = true := by rw [bne_iff_ne]; intro h; exact h0 (by rw [← h]; exact (bt_at s 0 (by simp; omega)).symm)
        clear hs hp h0
        go_enter Tryd.func69, Tryd.ntmps69
        go_wp2
        exact bodyPost_ret (v := .tuple #[.agg #[.int .i64 0, .int .i64 0, .int .i64 0, .int .i64 0, .int .i64 0, .int .i64 0, .int .i64 0], .bool false]) (by simp [results, Tryd.results69, go_sem]) rfl ⟨rfl, (Below.refl _ _).alloc (Nat.le_refl _) _⟩
    · have g2 : ((s.size : Int) != 9) = true := by rw [bne_iff_ne]; omega
      clear hs hp
      go_enter Tryd.func69, Tryd.ntmps69
      go_wp2
      exact bodyPost_ret (v := .tuple #[.agg #[.int .i64 0, .int .i64 0, .int .i64 0, .int .i64 0, .int .i64 0, .int .i64 0, .int .i64 0], .bool false]) (by simp [results, Tryd.results69, go_sem]) rfl ⟨rfl, (Below.refl _ _).alloc (Nat.le_refl _) _⟩
theorem moment_day.calls (a0 : Int) (a1 : ByteArray) (r1 r2 r3 r4 r5 r6 r7 : Int) (r8 : Bool) (w : World) (h : moment_day.f a0 a1 = some (r1, r2, r3, r4, r5, r6, r7, r8)) :
    Calls Tryd.prog 69 #[.int .i64 a0, .string a1] w fun e w' => e = .returned (.tuple #[.agg #[.int .i64 r1, .int .i64 r2, .int .i64 r3, .int .i64 r4, .int .i64 r5, .int .i64 r6, .int .i64 r7], .bool r8]) ∧ Below w.heap.size w w' := by
  unfold moment_day.f at h
  have h := Option.some.inj h
  simp only [Prod.mk.injEq] at h
  obtain ⟨rfl, rfl, rfl, rfl, rfl, rfl, rfl, rfl⟩ := h
  exact day_calls a0 a1 w
end Go.Proofs.YtjlchnmpebdggaaDoor.Mo
end
