import Derived.Test.YtjlchnmpebdggaaDoorJa1
import Derived.Test.YtjlchnmpebdggaaDoorJa2
import Derived.Test.YtjlchnmpebdggaaDoorJa3
section
namespace Go.Proofs.YtjlchnmpebdggaaDoor.Mo
open Go.RowKit Go.Proofs.YtjlchnmpebdggaaDoorW.PrintWords Go.Proofs.YtjlchnmpebdggaaDoorW.PrintLast Go.Proofs.YtjlchnmpebdggaaDoorW.PrintMore
attribute [local go_sem] max2_int min2_int max_two min_two max_three min_three max_four min_four   -- for this text's walks alone
set_option linter.unusedVariables false
set_option linter.unusedSimpArgs false
def moment_civil.l0 : Nat → Int → Int → Int → Option (Int × Int × Int × Int × Int × Int × Int)
 | 0, _, _, _ => none
 | k + 1, x0, x3, x6 => (moment_length.f x3 x6).bind fun t382 => (if x0 ≥ t382 then ((moment_length.f x3 x6).bind fun t383 => (moment_civil.l0 k (wrap64 (x0 - t383)) x3 (wrap64 (x6 + 1)))) else (some (x3, x6, wrap64 (x0 + 1), 0, 0, 0, 0)))
def moment_civil.f (k : Nat) (a0 : Int) : Option (Int × Int × Int × Int × Int × Int × Int) := moment_civil.l0 k (wrap64 ((Int.tmod (wrap64 ((Int.tmod a0 146097) - (wrap64 (36524 * (mn (wrap64 (Int.tdiv (Int.tmod a0 146097) 36524)) 3))))) 1461) - (wrap64 (365 * (mn (wrap64 (Int.tdiv (Int.tmod (wrap64 ((Int.tmod a0 146097) - (wrap64 (36524 * (mn (wrap64 (Int.tdiv (Int.tmod a0 146097) 36524)) 3))))) 1461) 365)) 3))))) (wrap64 ((wrap64 ((wrap64 (1 + (wrap64 (400 * (wrap64 (Int.tdiv a0 146097)))))) + (wrap64 ((wrap64 (100 * (mn (wrap64 (Int.tdiv (Int.tmod a0 146097) 36524)) 3))) + (wrap64 (4 * (wrap64 (Int.tdiv (wrap64 ((Int.tmod a0 146097) - (wrap64 (36524 * (mn (wrap64 (Int.tdiv (Int.tmod a0 146097) 36524)) 3))))) 1461)))))))) + (mn (wrap64 (Int.tdiv (Int.tmod (wrap64 ((Int.tmod a0 146097) - (wrap64 (36524 * (mn (wrap64 (Int.tdiv (Int.tmod a0 146097) 36524)) 3))))) 1461) 365)) 3))) 1
set_option maxHeartbeats 8000000 in
set_option maxRecDepth 100000 in
theorem moment_civil.calls (k : Nat) (a0 : Int) (r1 : Int) (r2 : Int) (r3 : Int) (r4 : Int) (r5 : Int) (r6 : Int) (r7 : Int) (w : World) (h : moment_civil.f k a0 = some (r1, r2, r3, r4, r5, r6, r7)) (hL_ : Laid w) :
  Calls Tryd.prog 73 #[.int .i64 a0] w fun e w' => e = .returned (.agg #[.int .i64 r1, .int .i64 r2, .int .i64 r3, .int .i64 r4, .int .i64 r5, .int .i64 r6, .int .i64 r7]) ∧ Below w.heap.size w w' := by
 have HL_ := Aside0.mk hL_
 clear hL_
 have hu23 := Tryd.underlying23
 have HB := Aside0.mk (Below.refl w.heap.size w)
 have H : (moment_civil.l0 k (wrap64 ((Int.tmod (wrap64 ((Int.tmod a0 146097) - (wrap64 (36524 * (mn (wrap64 (Int.tdiv (Int.tmod a0 146097) 36524)) 3))))) 1461) - (wrap64 (365 * (mn (wrap64 (Int.tdiv (Int.tmod (wrap64 ((Int.tmod a0 146097) - (wrap64 (36524 * (mn (wrap64 (Int.tdiv (Int.tmod a0 146097) 36524)) 3))))) 1461) 365)) 3))))) (wrap64 ((wrap64 ((wrap64 (1 + (wrap64 (400 * (wrap64 (Int.tdiv a0 146097)))))) + (wrap64 ((wrap64 (100 * (mn (wrap64 (Int.tdiv (Int.tmod a0 146097) 36524)) 3))) + (wrap64 (4 * (wrap64 (Int.tdiv (wrap64 ((Int.tmod a0 146097) - (wrap64 (36524 * (mn (wrap64 (Int.tdiv (Int.tmod a0 146097) 36524)) 3))))) 1461)))))))) + (mn (wrap64 (Int.tdiv (Int.tmod (wrap64 ((Int.tmod a0 146097) - (wrap64 (36524 * (mn (wrap64 (Int.tdiv (Int.tmod a0 146097) 36524)) 3))))) 1461) 365)) 3))) 1) = some (r1, r2, r3, r4, r5, r6, r7) := h
 clear h
 obtain ⟨ji2, hji2⟩ : ∃ j_ : Int, (mn (wrap64 (Int.tdiv (Int.tmod a0 146097) 36524)) 3) = j_ := ⟨_, rfl⟩
 replace H : (moment_civil.l0 k (wrap64 ((Int.tmod (wrap64 ((Int.tmod a0 146097) - (wrap64 (36524 * (ji2))))) 1461) - (wrap64 (365 * (mn (wrap64 (Int.tdiv (Int.tmod (wrap64 ((Int.tmod a0 146097) - (wrap64 (36524 * (ji2))))) 1461) 365)) 3))))) (wrap64 ((wrap64 ((wrap64 (1 + (wrap64 (400 * (wrap64 (Int.tdiv a0 146097)))))) + (wrap64 ((wrap64 (100 * (ji2))) + (wrap64 (4 * (wrap64 (Int.tdiv (wrap64 ((Int.tmod a0 146097) - (wrap64 (36524 * (ji2))))) 1461)))))))) + (mn (wrap64 (Int.tdiv (Int.tmod (wrap64 ((Int.tmod a0 146097) - (wrap64 (36524 * (ji2))))) 1461) 365)) 3))) 1) = some (r1, r2, r3, r4, r5, r6, r7) := by first | (rw [hji2] at H; exact H) | (simp only [hji2] at H ⊢; exact H)
 (try (have hji2h : ji2 ≤ 3 := by (rw [← hji2]; unfold mn; (repeat' split) <;> omega)))
 (try (have hji2g : ji2 ≤ 64 := by omega))
 have hji2_ : (if 3 < (wrap64 (Int.tdiv (Int.tmod a0 146097) 36524)) then 3 else (wrap64 (Int.tdiv (Int.tmod a0 146097) 36524))) = ji2 := hji2
 obtain ⟨ji3, hji3⟩ : ∃ j_ : Int, (mn (wrap64 (Int.tdiv (Int.tmod (wrap64 ((Int.tmod a0 146097) - (wrap64 (36524 * (ji2))))) 1461) 365)) 3) = j_ := ⟨_, rfl⟩
 replace H : (moment_civil.l0 k (wrap64 ((Int.tmod (wrap64 ((Int.tmod a0 146097) - (wrap64 (36524 * (ji2))))) 1461) - (wrap64 (365 * (ji3))))) (wrap64 ((wrap64 ((wrap64 (1 + (wrap64 (400 * (wrap64 (Int.tdiv a0 146097)))))) + (wrap64 ((wrap64 (100 * (ji2))) + (wrap64 (4 * (wrap64 (Int.tdiv (wrap64 ((Int.tmod a0 146097) - (wrap64 (36524 * (ji2))))) 1461)))))))) + (ji3))) 1) = some (r1, r2, r3, r4, r5, r6, r7) := by first | (rw [hji3] at H; exact H) | (simp only [hji3] at H ⊢; exact H)
 have hji3_ : (if 3 < (wrap64 (Int.tdiv (Int.tmod (wrap64 ((Int.tmod a0 146097) - (wrap64 (36524 * (ji2))))) 1461) 365)) then 3 else (wrap64 (Int.tdiv (Int.tmod (wrap64 ((Int.tmod a0 146097) - (wrap64 (36524 * (ji2))))) 1461) 365))) = ji3 := hji3
 have H' := Aside0.mk H
 clear H
 go_enter Tryd.func73, Tryd.ntmps73
 go_wp2_with (first | ((with_reducible refine gate_dst (N := 2) rfl ?_); refine box_event ?hg (N := 2) ?hd (cs := #[.int .i64 0, .int .i64 0, .int .i64 0, .int .i64 0, .int .i64 0, .int .i64 0, .int .i64 0]) (t := 23) ?hr ?_; (case hd => rfl); (case hg => rfl); (case hr => first | (go_simp; done) | (go_simp; rfl)); intro gb381 hg w4 hbox hb; have n0_ := Aside0.mk (below_step (by repeat (first | (with_reducible first | exact HB.out | apply below_alloc | apply pw_below_drewN | apply below_drew1) | exact HB.out)) hb); have n1_ := Aside0.mk (hbox); have n2_ := Aside0.mk ((by rw [hg]; exact (below_size (by repeat (first | (with_reducible first | exact HB.out | apply below_alloc | apply pw_below_drewN | apply below_drew1) | exact HB.out))) : w.heap.size ≤ gb381)); have n3_ := Aside0.mk ((by rw [hg]; exact (below_size (by repeat (first | (with_reducible first | exact HB.out | apply below_alloc | apply pw_below_drewN | apply below_drew1) | exact HB.out))) : w.heap.size ≤ gb381)); clear HB; have HB := n0_; have BK381 := n1_; have GW381 := n2_; have GE381 := n3_; clear n0_ n1_ n2_ n3_; clear hb hbox hg))
 go_loopg [0, 6] k (fun kq v0 v6 w' => ∃ (x0_1 : Int) (x6_1 : Int), v0 = .int .i64 x0_1 ∧ v6 = .int .i64 x6_1 ∧ Aside0 (moment_civil.l0 kq x0_1 (wrap64 ((wrap64 ((wrap64 (1 + (wrap64 (400 * (wrap64 (Int.tdiv a0 146097)))))) + (wrap64 ((wrap64 (100 * (ji2))) + (wrap64 (4 * (wrap64 (Int.tdiv (wrap64 ((Int.tmod a0 146097) - (wrap64 (36524 * (ji2))))) 1461)))))))) + (ji3))) x6_1 = some (r1, r2, r3, r4, r5, r6, r7)) ∧ Aside0 (kq ≤ k) ∧ Aside0 (w'.heap[gb381]? = some (.cells #[.int .i64 0, .int .i64 0, .int .i64 0, .int .i64 0, .int .i64 0, .int .i64 0, .int .i64 0] 23 (0, 0))) ∧ Aside0 (Below w.heap.size w w'))
 case atStart => exact ⟨(wrap64 ((Int.tmod (wrap64 ((Int.tmod a0 146097) - (wrap64 (36524 * (ji2))))) 1461) - (wrap64 (365 * (ji3))))), (1), (by first | rfl | (simp; done) | (simp only [← hji2, ← hji3] <;> (first | rfl | simp)) | (simp [*]; done)), (by first | rfl | (simp; done) | (simp [*]; done)), H', ⟨Nat.le_refl _⟩, ⟨by (with_reducible repeat (first | refine blk_drewN ?_ _ | refine blk_drew ?_ | refine blk_alloc ?_ _)); exact BK381.out⟩, ⟨by repeat (first | (with_reducible first | exact HB.out | apply below_alloc | apply pw_below_drewN | apply below_drew1 | refine below_set ?_ GE381.out) | exact HB.out)⟩⟩
 case round =>
  clear H'
  try clear p2
  obtain ⟨x0_1, x6_1, rfl, rfl, HA, HK1, BK381, HB⟩ := hrel
  cases gk with
  | zero => exact absurd HA.out (by simp [moment_civil.l0])
  | succ k1 =>
   have H := HA.out
   clear HA
   simp only [moment_civil.l0] at H
   replace H := Option.bind_eq_some_iff.mp H
   obtain ⟨t382, A50, H⟩ := H
   replace H : (if x0_1 ≥ t382 then ((moment_length.f (wrap64 ((wrap64 ((wrap64 (1 + (wrap64 (400 * (wrap64 (Int.tdiv a0 146097)))))) + (wrap64 ((wrap64 (100 * (ji2))) + (wrap64 (4 * (wrap64 (Int.tdiv (wrap64 ((Int.tmod a0 146097) - (wrap64 (36524 * (ji2))))) 1461)))))))) + (ji3))) x6_1).bind fun t383 => (moment_civil.l0 k1 (wrap64 (x0_1 - t383)) (wrap64 ((wrap64 ((wrap64 (1 + (wrap64 (400 * (wrap64 (Int.tdiv a0 146097)))))) + (wrap64 ((wrap64 (100 * (ji2))) + (wrap64 (4 * (wrap64 (Int.tdiv (wrap64 ((Int.tmod a0 146097) - (wrap64 (36524 * (ji2))))) 1461)))))))) + (ji3))) (wrap64 (x6_1 + 1)))) else (some ((wrap64 ((wrap64 ((wrap64 (1 + (wrap64 (400 * (wrap64 (Int.tdiv a0 146097)))))) + (wrap64 ((wrap64 (100 * (ji2))) + (wrap64 (4 * (wrap64 (Int.tdiv (wrap64 ((Int.tmod a0 146097) - (wrap64 (36524 * (ji2))))) 1461)))))))) + (ji3))), x6_1, wrap64 (x0_1 + 1), 0, 0, 0, 0))) = some (r1, r2, r3, r4, r5, r6, r7) := H
   have A5 := Aside0.mk A50
   clear A50
   by_cases c6 : x0_1 ≥ t382
   ·rw [if_pos c6] at H
    have c6b0 : decide (t382 ≤ x0_1) = true := decide_eq_true c6
    clear c6
    replace H := Option.bind_eq_some_iff.mp H
    obtain ⟨t383, A70, H⟩ := H
    replace H : (moment_civil.l0 k1 (wrap64 (x0_1 - t383)) (wrap64 ((wrap64 ((wrap64 (1 + (wrap64 (400 * (wrap64 (Int.tdiv a0 146097)))))) + (wrap64 ((wrap64 (100 * (ji2))) + (wrap64 (4 * (wrap64 (Int.tdiv (wrap64 ((Int.tmod a0 146097) - (wrap64 (36524 * (ji2))))) 1461)))))))) + (ji3))) (wrap64 (x6_1 + 1))) = some (r1, r2, r3, r4, r5, r6, r7) := H
    have A7 := Aside0.mk A70
    clear A70
    have H' := Aside0.mk H
    clear H
    go_wp2_with (first | ((with_reducible refine gate_callee (f := 47) rfl ?_); refine goesL_ (some 43) rfl rfl Tryd.func47 (by kernel_rfl) rfl #[.int .i64 (wrap64 ((wrap64 ((wrap64 (1 + (wrap64 (400 * (wrap64 (Int.tdiv a0 146097)))))) + (wrap64 ((wrap64 (100 * (ji2))) + (wrap64 (4 * (wrap64 (Int.tdiv (wrap64 ((Int.tmod a0 146097) - (wrap64 (36524 * (ji2))))) 1461)))))))) + (ji3))), .int .i64 x6_1] rfl (by (try simp only [List.map_toArray, List.map_cons, List.map_nil]); first | done | (simp only [hji2, hji3]; rfl) | rfl | (simp only [List.length_drop, List.length_take]; rfl)) ?_; (with_reducible refine (moment_length.calls (wrap64 ((wrap64 ((wrap64 (1 + (wrap64 (400 * (wrap64 (Int.tdiv a0 146097)))))) + (wrap64 ((wrap64 (100 * (ji2))) + (wrap64 (4 * (wrap64 (Int.tdiv (wrap64 ((Int.tmod a0 146097) - (wrap64 (36524 * (ji2))))) 1461)))))))) + (ji3))) x6_1 t382 _ A5.out (by first | exact laid_below HL_.out (by repeat (first | (with_reducible first | exact HB.out | apply below_alloc | apply pw_below_drewN | apply below_drew1) | exact HB.out)) | exact laid_drawn HL_.out (by repeat (first | exact Drawn0.refl _ | apply Drawn0.step)))).mono ?_); rintro e w' ⟨rfl, ⟨nd, rfl⟩⟩; refine ⟨_, rfl, ?_⟩) | ((with_reducible refine gate_callee (f := 47) rfl ?_); refine goesL_ (some 48) rfl rfl Tryd.func47 (by kernel_rfl) rfl #[.int .i64 (wrap64 ((wrap64 ((wrap64 (1 + (wrap64 (400 * (wrap64 (Int.tdiv a0 146097)))))) + (wrap64 ((wrap64 (100 * (ji2))) + (wrap64 (4 * (wrap64 (Int.tdiv (wrap64 ((Int.tmod a0 146097) - (wrap64 (36524 * (ji2))))) 1461)))))))) + (ji3))), .int .i64 x6_1] rfl (by (try simp only [List.map_toArray, List.map_cons, List.map_nil]); first | done | (simp only [hji2, hji3]; rfl) | rfl | (simp only [List.length_drop, List.length_take]; rfl)) ?_; (with_reducible refine (moment_length.calls (wrap64 ((wrap64 ((wrap64 (1 + (wrap64 (400 * (wrap64 (Int.tdiv a0 146097)))))) + (wrap64 ((wrap64 (100 * (ji2))) + (wrap64 (4 * (wrap64 (Int.tdiv (wrap64 ((Int.tmod a0 146097) - (wrap64 (36524 * (ji2))))) 1461)))))))) + (ji3))) x6_1 t383 _ A7.out (by first | exact laid_below HL_.out (by repeat (first | (with_reducible first | exact HB.out | apply below_alloc | apply pw_below_drewN | apply below_drew1) | exact HB.out)) | exact laid_drawn HL_.out (by repeat (first | exact Drawn0.refl _ | apply Drawn0.step)))).mono ?_); rintro e w' ⟨rfl, ⟨nd, rfl⟩⟩; refine ⟨_, rfl, ?_⟩))
    go_roundg k1
    case measure => have := HK1.out; omega
    case rel => exact ⟨(wrap64 (x0_1 - t383)), (wrap64 (x6_1 + 1)), (by first | rfl | (simp; done) | (simp [*]; done)), (by first | rfl | (simp; done) | (simp [*]; done)), H', ⟨by have := HK1.out; omega⟩, ⟨by (with_reducible repeat (first | refine blk_drewN ?_ _ | refine blk_drew ?_ | refine blk_alloc ?_ _)); exact BK381.out⟩, ⟨by repeat (first | (with_reducible first | exact HB.out | apply below_alloc | apply pw_below_drewN | apply below_drew1 | refine below_set ?_ GE381.out) | exact HB.out)⟩⟩
   ·rw [if_neg c6] at H
    have c6b0 : decide (t382 ≤ x0_1) = false := decide_eq_false c6
    clear c6
    simp only [Option.some.injEq, Prod.mk.injEq] at H
    obtain ⟨rfl, rfl, rfl, rfl, rfl, rfl, rfl⟩ := H
    go_wp2_with (first | ((with_reducible refine gate_callee (f := 47) rfl ?_); refine goesL_ (some 43) rfl rfl Tryd.func47 (by kernel_rfl) rfl #[.int .i64 (wrap64 ((wrap64 ((wrap64 (1 + (wrap64 (400 * (wrap64 (Int.tdiv a0 146097)))))) + (wrap64 ((wrap64 (100 * (ji2))) + (wrap64 (4 * (wrap64 (Int.tdiv (wrap64 ((Int.tmod a0 146097) - (wrap64 (36524 * (ji2))))) 1461)))))))) + (ji3))), .int .i64 x6_1] rfl (by (try simp only [List.map_toArray, List.map_cons, List.map_nil]); first | done | (simp only [hji2, hji3]; rfl) | rfl | (simp only [List.length_drop, List.length_take]; rfl)) ?_; (with_reducible refine (moment_length.calls (wrap64 ((wrap64 ((wrap64 (1 + (wrap64 (400 * (wrap64 (Int.tdiv a0 146097)))))) + (wrap64 ((wrap64 (100 * (ji2))) + (wrap64 (4 * (wrap64 (Int.tdiv (wrap64 ((Int.tmod a0 146097) - (wrap64 (36524 * (ji2))))) 1461)))))))) + (ji3))) x6_1 t382 _ A5.out (by first | exact laid_below HL_.out (by repeat (first | (with_reducible first | exact HB.out | apply below_alloc | apply pw_below_drewN | apply below_drew1) | exact HB.out)) | exact laid_drawn HL_.out (by repeat (first | exact Drawn0.refl _ | apply Drawn0.step)))).mono ?_); rintro e w' ⟨rfl, ⟨nd, rfl⟩⟩; refine ⟨_, rfl, ?_⟩; (try (rw [drewN_self wr]; generalize hq_ : World.drewN wr _ = wr; have n0_ : Aside0 (wr.heap[gb381]? = some (.cells #[.int .i64 0, .int .i64 0, .int .i64 0, .int .i64 0, .int .i64 0, .int .i64 0, .int .i64 0] 23 (0, 0))) := ⟨by rw [← hq_]; exact (by (with_reducible repeat (first | refine blk_drewN ?_ _ | refine blk_drew ?_ | refine blk_alloc ?_ _)); exact BK381.out)⟩; have n1_ : Aside0 (Below w.heap.size w wr) := ⟨by rw [← hq_]; exact (by repeat (first | (with_reducible first | exact HB.out | apply below_alloc | apply pw_below_drewN | apply below_drew1 | refine below_set ?_ GE381.out) | exact HB.out))⟩; clear BK381 HB hq_; have BK381 := n0_; have HB := n1_; clear n0_ n1_)); have hcz8_0 : wr.cell? ⟨gb381, 0, none⟩ = some (.int .i64 0) := (blk_cell BK381.out 0).trans rfl; have hcz8_1 : wr.cell? ⟨gb381, 1, none⟩ = some (.int .i64 0) := (blk_cell BK381.out 1).trans rfl; have hcz8_2 : wr.cell? ⟨gb381, 2, none⟩ = some (.int .i64 0) := (blk_cell BK381.out 2).trans rfl; have hcz8_3 : wr.cell? ⟨gb381, 3, none⟩ = some (.int .i64 0) := (blk_cell BK381.out 3).trans rfl; have hcz8_4 : wr.cell? ⟨gb381, 4, none⟩ = some (.int .i64 0) := (blk_cell BK381.out 4).trans rfl; have hcz8_5 : wr.cell? ⟨gb381, 5, none⟩ = some (.int .i64 0) := (blk_cell BK381.out 5).trans rfl; have hcz8_6 : wr.cell? ⟨gb381, 6, none⟩ = some (.int .i64 0) := (blk_cell BK381.out 6).trans rfl; have hfz8_0 := blk_frozen BK381.out 0; have hfz8_1 := blk_frozen BK381.out 1; have hfz8_2 := blk_frozen BK381.out 2; have hfz8_3 := blk_frozen BK381.out 3; have hfz8_4 := blk_frozen BK381.out 4; have hfz8_5 := blk_frozen BK381.out 5; have hfz8_6 := blk_frozen BK381.out 6))
    refine bodyPost_ret (results_cell_row rfl _ _ gb381 23 #[.int .i64 (wrap64 ((wrap64 ((wrap64 (1 + (wrap64 (400 * (wrap64 (Int.tdiv a0 146097)))))) + (wrap64 ((wrap64 (100 * (ji2))) + (wrap64 (4 * (wrap64 (Int.tdiv (wrap64 ((Int.tmod a0 146097) - (wrap64 (36524 * (ji2))))) 1461)))))))) + (ji3))), .int .i64 x6_1, .int .i64 (wrap64 (x0_1 + 1)), .int .i64 0, .int .i64 0, .int .i64 0, .int .i64 0] (0, 0) _ rfl (by (with_reducible repeat (first | refine blk_drewN ?_ _ | refine blk_drew ?_ | refine blk_alloc ?_ _)); refine blk_put (cs := #[.int .i64 (wrap64 ((wrap64 ((wrap64 (1 + (wrap64 (400 * (wrap64 (Int.tdiv a0 146097)))))) + (wrap64 ((wrap64 (100 * (ji2))) + (wrap64 (4 * (wrap64 (Int.tdiv (wrap64 ((Int.tmod a0 146097) - (wrap64 (36524 * (ji2))))) 1461)))))))) + (ji3))), .int .i64 x6_1, .int .i64 (wrap64 (x0_1 + 1)), .int .i64 0, .int .i64 0, .int .i64 0, .int .i64 0]) ?_ 6 _ rfl; (with_reducible repeat (first | refine blk_drewN ?_ _ | refine blk_drew ?_ | refine blk_alloc ?_ _)); refine blk_put (cs := #[.int .i64 (wrap64 ((wrap64 ((wrap64 (1 + (wrap64 (400 * (wrap64 (Int.tdiv a0 146097)))))) + (wrap64 ((wrap64 (100 * (ji2))) + (wrap64 (4 * (wrap64 (Int.tdiv (wrap64 ((Int.tmod a0 146097) - (wrap64 (36524 * (ji2))))) 1461)))))))) + (ji3))), .int .i64 x6_1, .int .i64 (wrap64 (x0_1 + 1)), .int .i64 0, .int .i64 0, .int .i64 0, .int .i64 0]) ?_ 5 _ rfl; (with_reducible repeat (first | refine blk_drewN ?_ _ | refine blk_drew ?_ | refine blk_alloc ?_ _)); refine blk_put (cs := #[.int .i64 (wrap64 ((wrap64 ((wrap64 (1 + (wrap64 (400 * (wrap64 (Int.tdiv a0 146097)))))) + (wrap64 ((wrap64 (100 * (ji2))) + (wrap64 (4 * (wrap64 (Int.tdiv (wrap64 ((Int.tmod a0 146097) - (wrap64 (36524 * (ji2))))) 1461)))))))) + (ji3))), .int .i64 x6_1, .int .i64 (wrap64 (x0_1 + 1)), .int .i64 0, .int .i64 0, .int .i64 0, .int .i64 0]) ?_ 4 _ rfl; (with_reducible repeat (first | refine blk_drewN ?_ _ | refine blk_drew ?_ | refine blk_alloc ?_ _)); refine blk_put (cs := #[.int .i64 (wrap64 ((wrap64 ((wrap64 (1 + (wrap64 (400 * (wrap64 (Int.tdiv a0 146097)))))) + (wrap64 ((wrap64 (100 * (ji2))) + (wrap64 (4 * (wrap64 (Int.tdiv (wrap64 ((Int.tmod a0 146097) - (wrap64 (36524 * (ji2))))) 1461)))))))) + (ji3))), .int .i64 x6_1, .int .i64 (wrap64 (x0_1 + 1)), .int .i64 0, .int .i64 0, .int .i64 0, .int .i64 0]) ?_ 3 _ rfl; (with_reducible repeat (first | refine blk_drewN ?_ _ | refine blk_drew ?_ | refine blk_alloc ?_ _)); refine blk_put (cs := #[.int .i64 (wrap64 ((wrap64 ((wrap64 (1 + (wrap64 (400 * (wrap64 (Int.tdiv a0 146097)))))) + (wrap64 ((wrap64 (100 * (ji2))) + (wrap64 (4 * (wrap64 (Int.tdiv (wrap64 ((Int.tmod a0 146097) - (wrap64 (36524 * (ji2))))) 1461)))))))) + (ji3))), .int .i64 x6_1, .int .i64 0, .int .i64 0, .int .i64 0, .int .i64 0, .int .i64 0]) ?_ 2 _ rfl; (with_reducible repeat (first | refine blk_drewN ?_ _ | refine blk_drew ?_ | refine blk_alloc ?_ _)); refine blk_put (cs := #[.int .i64 (wrap64 ((wrap64 ((wrap64 (1 + (wrap64 (400 * (wrap64 (Int.tdiv a0 146097)))))) + (wrap64 ((wrap64 (100 * (ji2))) + (wrap64 (4 * (wrap64 (Int.tdiv (wrap64 ((Int.tmod a0 146097) - (wrap64 (36524 * (ji2))))) 1461)))))))) + (ji3))), .int .i64 0, .int .i64 0, .int .i64 0, .int .i64 0, .int .i64 0, .int .i64 0]) ?_ 1 _ rfl; (with_reducible repeat (first | refine blk_drewN ?_ _ | refine blk_drew ?_ | refine blk_alloc ?_ _)); refine blk_put (cs := #[.int .i64 0, .int .i64 0, .int .i64 0, .int .i64 0, .int .i64 0, .int .i64 0, .int .i64 0]) ?_ 0 _ rfl; (with_reducible repeat (first | refine blk_drewN ?_ _ | refine blk_drew ?_ | refine blk_alloc ?_ _)); exact BK381.out) Tryd.underlying23 rfl (by kernel_rfl)) rfl ?_
    exact ⟨by first | rfl | (simp [errW_none, errW_some] <;> rfl) | (simp only [← hji2, ← hji3]; first | rfl | (simp [errW_none, errW_some] <;> rfl)) | (simp [*, errW_none, errW_some] <;> rfl), by repeat (first | (with_reducible first | exact HB.out | apply below_alloc | apply pw_below_drewN | apply below_drew1 | refine below_set ?_ GE381.out) | exact HB.out)⟩
attribute [local irreducible] moment_civil.f moment_civil.l0 moment_floor.f
mutual
def moment_At.j0 : Nat → Int → Int → Bool → Option (Int × Int × Int × Int × Int × Int × Int × Int)
 | 0, _, _, _ => none
 | k + 1, x0, x1, x14 => if x14 = true then (some (0, 0, 0, 0, 0, 0, 0, 1)) else (if x0 < (-345600000000) then (moment_At.j1 k x0 x1 true) else (moment_At.j1 k x0 x1 (decide (x0 > 345600000000))))
def moment_At.j1 : Nat → Int → Int → Bool → Option (Int × Int × Int × Int × Int × Int × Int × Int)
 | 0, _, _, _ => none
 | k + 1, x0, x1, x21 => if x21 = true then (some (0, 0, 0, 0, 0, 0, 0, 22)) else ((moment_floor.f (wrap64 (x0 + (wrap64 (60 * x1)))) 86400).bind fun bt385 => (if bt385.1 < (-719162) then (some (0, 0, 0, 0, 0, 0, 0, 22)) else (if bt385.1 > 2932896 then (some (0, 0, 0, 0, 0, 0, 0, 22)) else ((moment_civil.f k (wrap64 (bt385.1 + 719162))).bind fun bt387 => (some (bt387.1, bt387.2.1, bt387.2.2.1, wrap64 (Int.tdiv bt385.2 3600), Int.tmod (wrap64 (Int.tdiv bt385.2 60)) 60, Int.tmod bt385.2 60, x1, 0))))))
end
def moment_At.f (k : Nat) (a0 : Int) (a1 : Int) : Option (Int × Int × Int × Int × Int × Int × Int × Int) := if a1 < (-1439) then (moment_At.j0 k a0 a1 true) else (moment_At.j0 k a0 a1 (decide (a1 > 1439)))
set_option maxHeartbeats 8000000 in
set_option maxRecDepth 100000 in
theorem moment_At.calls (k : Nat) (a0 : Int) (a1 : Int) (r1 : Int) (r2 : Int) (r3 : Int) (r4 : Int) (r5 : Int) (r6 : Int) (r7 : Int) (r8 : Int) (w : World) (h : moment_At.f k a0 a1 = some (r1, r2, r3, r4, r5, r6, r7, r8)) (hL_ : Laid w) :
  Calls Tryd.prog 36 #[.int .i64 a0, .int .i64 a1] w fun e w' => e = .returned (.tuple #[.agg #[.int .i64 r1, .int .i64 r2, .int .i64 r3, .int .i64 r4, .int .i64 r5, .int .i64 r6, .int .i64 r7], .int .i64 r8]) ∧ Below w.heap.size w w' := by
 have HL_ := Aside0.mk hL_
 clear hL_
 have hu23 := Tryd.underlying23
 have HB := Aside0.mk (Below.refl w.heap.size w)
 have H : (if a1 < (-1439) then (moment_At.j0 k a0 a1 true) else (moment_At.j0 k a0 a1 (decide (a1 > 1439)))) = some (r1, r2, r3, r4, r5, r6, r7, r8) := h
 clear h
 have HC3 := Aside0.mk H
 clear H
 go_enter Tryd.func36, Tryd.ntmps36
 go_upto_region 1 with (first | ((with_reducible refine gate_dst (N := 4) rfl ?_); refine box_event ?hg (N := 4) ?hd (cs := #[.int .i64 0, .int .i64 0, .int .i64 0, .int .i64 0, .int .i64 0, .int .i64 0, .int .i64 0]) (t := 23) ?hr ?_; (case hd => rfl); (case hg => rfl); (case hr => first | (go_simp; done) | (go_simp; rfl)); intro gb384 hg w4 hbox hb; have n0_ := Aside0.mk (below_step (by repeat (first | (with_reducible first | exact HB.out | apply below_alloc | apply pw_below_drewN | apply below_drew1) | exact HB.out)) hb); have n1_ := Aside0.mk (hbox); have n2_ := Aside0.mk ((by rw [hg]; exact (below_size (by repeat (first | (with_reducible first | exact HB.out | apply below_alloc | apply pw_below_drewN | apply below_drew1) | exact HB.out))) : w.heap.size ≤ gb384)); have n3_ := Aside0.mk ((by rw [hg]; exact (below_size (by repeat (first | (with_reducible first | exact HB.out | apply below_alloc | apply pw_below_drewN | apply below_drew1) | exact HB.out))) : w.heap.size ≤ gb384)); clear HB; have HB := n0_; have BK384 := n1_; have GW384 := n2_; have GE384 := n3_; clear n0_ n1_ n2_ n3_; clear hb hbox hg))
 (try simp only [Act.put, s1_, s2_, s3_])
 go_cut [14] (fun v14 wc => ∃ (kq : Nat) (x14_2 : Bool), v14 = .bool x14_2 ∧ Aside0 (moment_At.j0 kq a0 a1 x14_2 = some (r1, r2, r3, r4, r5, r6, r7, r8)) ∧ Aside0 (kq ≤ k) ∧ Aside0 (wc.heap[gb384]? = some (.cells #[.int .i64 0, .int .i64 0, .int .i64 0, .int .i64 0, .int .i64 0, .int .i64 0, .int .i64 0] 23 (0, 0))) ∧ Aside0 (Below w.heap.size w wc))
 case first =>
  have H := HC3.out
  clear HC3
  by_cases c5 : a1 < (-1439)
  ·rw [if_pos c5] at H
   have c5b0 : decide (a1 < (-1439)) = true := decide_eq_true c5
   clear c5
   (first | rw [c5b0] | (simp only [i64_w, i32_w]; rw [c5b0]) | skip)
   have H' := Aside0.mk H
   clear H
   go_wp2
   go_meet
   case rel => exact ⟨_, (true), (by first | rfl | (simp; done) | (simp [*]; done)), H', ⟨by first | omega | exact Nat.le_refl _⟩, ⟨by (with_reducible repeat (first | refine blk_drewN ?_ _ | refine blk_drew ?_ | refine blk_alloc ?_ _)); exact BK384.out⟩, ⟨by repeat (first | (with_reducible first | exact HB.out | apply below_alloc | apply pw_below_drewN | apply below_drew1 | refine below_set ?_ GE384.out) | exact HB.out)⟩⟩
  ·rw [if_neg c5] at H
   have c5b0 : decide (a1 < (-1439)) = false := decide_eq_false c5
   clear c5
   (first | rw [c5b0] | (simp only [i64_w, i32_w]; rw [c5b0]) | skip)
   have H' := Aside0.mk H
   clear H
   go_wp2
   go_meet
   case rel => exact ⟨_, (decide (a1 > 1439)), (by first | rfl | (simp; done) | (simp [*]; done)), H', ⟨by first | omega | exact Nat.le_refl _⟩, ⟨by (with_reducible repeat (first | refine blk_drewN ?_ _ | refine blk_drew ?_ | refine blk_alloc ?_ _)); exact BK384.out⟩, ⟨by repeat (first | (with_reducible first | exact HB.out | apply below_alloc | apply pw_below_drewN | apply below_drew1 | refine below_set ?_ GE384.out) | exact HB.out)⟩⟩
 case rest =>
  clear HC3
  try clear p2
  try clear c3
  try clear c5
  try clear c5b0
  obtain ⟨kq, x14_2, rfl, HA, HJ2, BK384, HB⟩ := hcut
  cases kq with
  | zero => exact absurd HA.out (by simp [moment_At.j0])
  | succ kj2 =>
   have H := HA.out
   clear HA
   simp only [moment_At.j0] at H
   by_cases c6 : x14_2 = true
   ·subst c6
    have H1 : (some (0, 0, 0, 0, 0, 0, 0, 1)) = some (r1, r2, r3, r4, r5, r6, r7, r8) := by rw [if_pos rfl] at H; exact H
    clear H
    have H := H1
    clear H1
    simp only [Option.some.injEq, Prod.mk.injEq] at H
    obtain ⟨rfl, rfl, rfl, rfl, rfl, rfl, rfl, rfl⟩ := H
    have hcz7_0 : wc.cell? ⟨gb384, 0, none⟩ = some (.int .i64 0) := (blk_cell BK384.out 0).trans rfl
    have hcz7_1 : wc.cell? ⟨gb384, 1, none⟩ = some (.int .i64 0) := (blk_cell BK384.out 1).trans rfl
    have hcz7_2 : wc.cell? ⟨gb384, 2, none⟩ = some (.int .i64 0) := (blk_cell BK384.out 2).trans rfl
    have hcz7_3 : wc.cell? ⟨gb384, 3, none⟩ = some (.int .i64 0) := (blk_cell BK384.out 3).trans rfl
    have hcz7_4 : wc.cell? ⟨gb384, 4, none⟩ = some (.int .i64 0) := (blk_cell BK384.out 4).trans rfl
    have hcz7_5 : wc.cell? ⟨gb384, 5, none⟩ = some (.int .i64 0) := (blk_cell BK384.out 5).trans rfl
    have hcz7_6 : wc.cell? ⟨gb384, 6, none⟩ = some (.int .i64 0) := (blk_cell BK384.out 6).trans rfl
    have hfz7_0 := blk_frozen BK384.out 0
    have hfz7_1 := blk_frozen BK384.out 1
    have hfz7_2 := blk_frozen BK384.out 2
    have hfz7_3 := blk_frozen BK384.out 3
    have hfz7_4 := blk_frozen BK384.out 4
    have hfz7_5 := blk_frozen BK384.out 5
    have hfz7_6 := blk_frozen BK384.out 6
    go_wp2
    refine bodyPost_ret (results_ct rfl _ _ gb384 23 #[.int .i64 0, .int .i64 0, .int .i64 0, .int .i64 0, .int .i64 0, .int .i64 0, .int .i64 0] (0, 0) _ rfl (by (with_reducible repeat (first | refine blk_drewN ?_ _ | refine blk_drew ?_ | refine blk_alloc ?_ _)); refine blk_put (cs := #[.int .i64 0, .int .i64 0, .int .i64 0, .int .i64 0, .int .i64 0, .int .i64 0, .int .i64 0]) ?_ 6 _ rfl; (with_reducible repeat (first | refine blk_drewN ?_ _ | refine blk_drew ?_ | refine blk_alloc ?_ _)); refine blk_put (cs := #[.int .i64 0, .int .i64 0, .int .i64 0, .int .i64 0, .int .i64 0, .int .i64 0, .int .i64 0]) ?_ 5 _ rfl; (with_reducible repeat (first | refine blk_drewN ?_ _ | refine blk_drew ?_ | refine blk_alloc ?_ _)); refine blk_put (cs := #[.int .i64 0, .int .i64 0, .int .i64 0, .int .i64 0, .int .i64 0, .int .i64 0, .int .i64 0]) ?_ 4 _ rfl; (with_reducible repeat (first | refine blk_drewN ?_ _ | refine blk_drew ?_ | refine blk_alloc ?_ _)); refine blk_put (cs := #[.int .i64 0, .int .i64 0, .int .i64 0, .int .i64 0, .int .i64 0, .int .i64 0, .int .i64 0]) ?_ 3 _ rfl; (with_reducible repeat (first | refine blk_drewN ?_ _ | refine blk_drew ?_ | refine blk_alloc ?_ _)); refine blk_put (cs := #[.int .i64 0, .int .i64 0, .int .i64 0, .int .i64 0, .int .i64 0, .int .i64 0, .int .i64 0]) ?_ 2 _ rfl; (with_reducible repeat (first | refine blk_drewN ?_ _ | refine blk_drew ?_ | refine blk_alloc ?_ _)); refine blk_put (cs := #[.int .i64 0, .int .i64 0, .int .i64 0, .int .i64 0, .int .i64 0, .int .i64 0, .int .i64 0]) ?_ 1 _ rfl; (with_reducible repeat (first | refine blk_drewN ?_ _ | refine blk_drew ?_ | refine blk_alloc ?_ _)); refine blk_put (cs := #[.int .i64 0, .int .i64 0, .int .i64 0, .int .i64 0, .int .i64 0, .int .i64 0, .int .i64 0]) ?_ 0 _ rfl; (with_reducible repeat (first | refine blk_drewN ?_ _ | refine blk_drew ?_ | refine blk_alloc ?_ _)); exact BK384.out) Tryd.underlying23 rfl (by kernel_rfl)) rfl ?_
    exact ⟨by first | rfl | (simp [errW_none, errW_some] <;> rfl) | (simp [*, errW_none, errW_some] <;> rfl), by repeat (first | (with_reducible first | exact HB.out | apply below_alloc | apply pw_below_drewN | apply below_drew1 | refine below_set ?_ GE384.out) | exact HB.out)⟩
   ·replace c6 := Bool.eq_false_iff.mpr c6
    subst c6
    have H1 : (if a0 < (-345600000000) then (moment_At.j1 kj2 a0 a1 true) else (moment_At.j1 kj2 a0 a1 (decide (a0 > 345600000000)))) = some (r1, r2, r3, r4, r5, r6, r7, r8) := by rw [if_neg (show ¬ (false = true) by decide)] at H; exact H
    clear H
    have H := H1
    clear H1
    have HC8 := Aside0.mk H
    clear H
    go_upto_region 3 with (fail)
    go_cut [21] (fun v21 wc => ∃ (kq : Nat) (x21_7 : Bool), v21 = .bool x21_7 ∧ Aside0 (moment_At.j1 kq a0 a1 x21_7 = some (r1, r2, r3, r4, r5, r6, r7, r8)) ∧ Aside0 (kq ≤ kj2) ∧ Aside0 (wc.heap[gb384]? = some (.cells #[.int .i64 0, .int .i64 0, .int .i64 0, .int .i64 0, .int .i64 0, .int .i64 0, .int .i64 0] 23 (0, 0))) ∧ Aside0 (Below w.heap.size w wc))
    case first =>
     have H := HC8.out
     clear HC8
     by_cases c9 : a0 < (-345600000000)
     ·rw [if_pos c9] at H
      have c9b0 : decide (a0 < (-345600000000)) = true := decide_eq_true c9
      clear c9
      (first | rw [c9b0] | (simp only [i64_w, i32_w]; rw [c9b0]) | skip)
      have H' := Aside0.mk H
      clear H
      go_wp2
      go_meet
      case rel => exact ⟨_, (true), (by first | rfl | (simp; done) | (simp [*]; done)), H', ⟨by have := HJ2.out; first | omega | exact Nat.le_refl _⟩, ⟨by (with_reducible repeat (first | refine blk_drewN ?_ _ | refine blk_drew ?_ | refine blk_alloc ?_ _)); exact BK384.out⟩, ⟨by repeat (first | (with_reducible first | exact HB.out | apply below_alloc | apply pw_below_drewN | apply below_drew1 | refine below_set ?_ GE384.out) | exact HB.out)⟩⟩
     ·rw [if_neg c9] at H
      have c9b0 : decide (a0 < (-345600000000)) = false := decide_eq_false c9
      clear c9
      (first | rw [c9b0] | (simp only [i64_w, i32_w]; rw [c9b0]) | skip)
      have H' := Aside0.mk H
      clear H
      go_wp2
      go_meet
      case rel => exact ⟨_, (decide (a0 > 345600000000)), (by first | rfl | (simp; done) | (simp [*]; done)), H', ⟨by have := HJ2.out; first | omega | exact Nat.le_refl _⟩, ⟨by (with_reducible repeat (first | refine blk_drewN ?_ _ | refine blk_drew ?_ | refine blk_alloc ?_ _)); exact BK384.out⟩, ⟨by repeat (first | (with_reducible first | exact HB.out | apply below_alloc | apply pw_below_drewN | apply below_drew1 | refine below_set ?_ GE384.out) | exact HB.out)⟩⟩
    case rest =>
     clear HC8
     try clear p2
     try clear c3
     try clear c5
     try clear c5b0
     try clear c6
     try clear c9
     try clear c9b0
     try clear hcz7_0
     try clear hcz7_1
     try clear hcz7_2
     try clear hcz7_3
     try clear hcz7_4
     try clear hcz7_5
     try clear hcz7_6
     try clear hfz7_0
     try clear hfz7_1
     try clear hfz7_2
     try clear hfz7_3
     try clear hfz7_4
     try clear hfz7_5
     try clear hfz7_6
     try clear p2
     obtain ⟨kq, x21_7, rfl, HA, HJ7, BK384, HB⟩ := hcut
     cases kq with
     | zero => exact absurd HA.out (by simp [moment_At.j1])
     | succ kj7 =>
      have H := HA.out
      clear HA
      simp only [moment_At.j1] at H
      by_cases c10 : x21_7 = true
      ·subst c10
       have H1 : (some (0, 0, 0, 0, 0, 0, 0, 22)) = some (r1, r2, r3, r4, r5, r6, r7, r8) := by rw [if_pos rfl] at H; exact H
       clear H
       have H := H1
       clear H1
       simp only [Option.some.injEq, Prod.mk.injEq] at H
       obtain ⟨rfl, rfl, rfl, rfl, rfl, rfl, rfl, rfl⟩ := H
       have hcz11_0 : wc.cell? ⟨gb384, 0, none⟩ = some (.int .i64 0) := (blk_cell BK384.out 0).trans rfl
       have hcz11_1 : wc.cell? ⟨gb384, 1, none⟩ = some (.int .i64 0) := (blk_cell BK384.out 1).trans rfl
       have hcz11_2 : wc.cell? ⟨gb384, 2, none⟩ = some (.int .i64 0) := (blk_cell BK384.out 2).trans rfl
       have hcz11_3 : wc.cell? ⟨gb384, 3, none⟩ = some (.int .i64 0) := (blk_cell BK384.out 3).trans rfl
       have hcz11_4 : wc.cell? ⟨gb384, 4, none⟩ = some (.int .i64 0) := (blk_cell BK384.out 4).trans rfl
       have hcz11_5 : wc.cell? ⟨gb384, 5, none⟩ = some (.int .i64 0) := (blk_cell BK384.out 5).trans rfl
       have hcz11_6 : wc.cell? ⟨gb384, 6, none⟩ = some (.int .i64 0) := (blk_cell BK384.out 6).trans rfl
       have hfz11_0 := blk_frozen BK384.out 0
       have hfz11_1 := blk_frozen BK384.out 1
       have hfz11_2 := blk_frozen BK384.out 2
       have hfz11_3 := blk_frozen BK384.out 3
       have hfz11_4 := blk_frozen BK384.out 4
       have hfz11_5 := blk_frozen BK384.out 5
       have hfz11_6 := blk_frozen BK384.out 6
       go_wp2
       refine bodyPost_ret (results_ct rfl _ _ gb384 23 #[.int .i64 0, .int .i64 0, .int .i64 0, .int .i64 0, .int .i64 0, .int .i64 0, .int .i64 0] (0, 0) _ rfl (by (with_reducible repeat (first | refine blk_drewN ?_ _ | refine blk_drew ?_ | refine blk_alloc ?_ _)); refine blk_put (cs := #[.int .i64 0, .int .i64 0, .int .i64 0, .int .i64 0, .int .i64 0, .int .i64 0, .int .i64 0]) ?_ 6 _ rfl; (with_reducible repeat (first | refine blk_drewN ?_ _ | refine blk_drew ?_ | refine blk_alloc ?_ _)); refine blk_put (cs := #[.int .i64 0, .int .i64 0, .int .i64 0, .int .i64 0, .int .i64 0, .int .i64 0, .int .i64 0]) ?_ 5 _ rfl; (with_reducible repeat (first | refine blk_drewN ?_ _ | refine blk_drew ?_ | refine blk_alloc ?_ _)); refine blk_put (cs := #[.int .i64 0, .int .i64 0, .int .i64 0, .int .i64 0, .int .i64 0, .int .i64 0, .int .i64 0]) ?_ 4 _ rfl; (with_reducible repeat (first | refine blk_drewN ?_ _ | refine blk_drew ?_ | refine blk_alloc ?_ _)); refine blk_put (cs := #[.int .i64 0, .int .i64 0, .int .i64 0, .int .i64 0, .int .i64 0, .int .i64 0, .int .i64 0]) ?_ 3 _ rfl; (with_reducible repeat (first | refine blk_drewN ?_ _ | refine blk_drew ?_ | refine blk_alloc ?_ _)); refine blk_put (cs := #[.int .i64 0, .int .i64 0, .int .i64 0, .int .i64 0, .int .i64 0, .int .i64 0, .int .i64 0]) ?_ 2 _ rfl; (with_reducible repeat (first | refine blk_drewN ?_ _ | refine blk_drew ?_ | refine blk_alloc ?_ _)); refine blk_put (cs := #[.int .i64 0, .int .i64 0, .int .i64 0, .int .i64 0, .int .i64 0, .int .i64 0, .int .i64 0]) ?_ 1 _ rfl; (with_reducible repeat (first | refine blk_drewN ?_ _ | refine blk_drew ?_ | refine blk_alloc ?_ _)); refine blk_put (cs := #[.int .i64 0, .int .i64 0, .int .i64 0, .int .i64 0, .int .i64 0, .int .i64 0, .int .i64 0]) ?_ 0 _ rfl; (with_reducible repeat (first | refine blk_drewN ?_ _ | refine blk_drew ?_ | refine blk_alloc ?_ _)); exact BK384.out) Tryd.underlying23 rfl (by kernel_rfl)) rfl ?_
       exact ⟨by first | rfl | (simp [errW_none, errW_some] <;> rfl) | (simp [*, errW_none, errW_some] <;> rfl), by repeat (first | (with_reducible first | exact HB.out | apply below_alloc | apply pw_below_drewN | apply below_drew1 | refine below_set ?_ GE384.out) | exact HB.out)⟩
      ·replace c10 := Bool.eq_false_iff.mpr c10
       subst c10
       have H1 : ((moment_floor.f (wrap64 (a0 + (wrap64 (60 * a1)))) 86400).bind fun bt385 => (if bt385.1 < (-719162) then (some (0, 0, 0, 0, 0, 0, 0, 22)) else (if bt385.1 > 2932896 then (some (0, 0, 0, 0, 0, 0, 0, 22)) else ((moment_civil.f kj7 (wrap64 (bt385.1 + 719162))).bind fun bt387 => (some (bt387.1, bt387.2.1, bt387.2.2.1, wrap64 (Int.tdiv bt385.2 3600), Int.tmod (wrap64 (Int.tdiv bt385.2 60)) 60, Int.tmod bt385.2 60, a1, 0)))))) = some (r1, r2, r3, r4, r5, r6, r7, r8) := by rw [if_neg (show ¬ (false = true) by decide)] at H; exact H
       clear H
       have H := H1
       clear H1
       replace H := Option.bind_eq_some_iff.mp H
       obtain ⟨⟨t385, t386⟩, A120, H⟩ := H
       replace H : (if t385 < (-719162) then (some (0, 0, 0, 0, 0, 0, 0, 22)) else (if t385 > 2932896 then (some (0, 0, 0, 0, 0, 0, 0, 22)) else ((moment_civil.f kj7 (wrap64 (t385 + 719162))).bind fun bt387 => (some (bt387.1, bt387.2.1, bt387.2.2.1, wrap64 (Int.tdiv t386 3600), Int.tmod (wrap64 (Int.tdiv t386 60)) 60, Int.tmod t386 60, a1, 0))))) = some (r1, r2, r3, r4, r5, r6, r7, r8) := H
       have A12 := Aside0.mk A120
       clear A120
       by_cases c13 : t385 < (-719162)
       ·rw [if_pos c13] at H
        have c13b0 : decide (t385 < (-719162)) = true := decide_eq_true c13
        clear c13
        simp only [Option.some.injEq, Prod.mk.injEq] at H
        obtain ⟨rfl, rfl, rfl, rfl, rfl, rfl, rfl, rfl⟩ := H
        go_wp2_with (first | ((with_reducible refine gate_callee (f := 48) rfl ?_); refine goesL_ (some 28) rfl rfl Tryd.func48 (by kernel_rfl) rfl #[.int .i64 (wrap64 (a0 + (wrap64 (60 * a1)))), .int .i64 86400] rfl (by (try simp only [List.map_toArray, List.map_cons, List.map_nil]); first | done | rfl | (simp only [List.length_drop, List.length_take]; rfl)) ?_; (with_reducible refine (moment_floor.calls (wrap64 (a0 + (wrap64 (60 * a1)))) 86400 t385 t386 _ A12.out).mono ?_); rintro e w' ⟨rfl, ⟨nd, rfl⟩⟩; refine ⟨_, rfl, ?_⟩; (try (rw [drewN_self wc]; generalize hq_ : World.drewN wc _ = wc; have n0_ : Aside0 (wc.heap[gb384]? = some (.cells #[.int .i64 0, .int .i64 0, .int .i64 0, .int .i64 0, .int .i64 0, .int .i64 0, .int .i64 0] 23 (0, 0))) := ⟨by rw [← hq_]; exact (by (with_reducible repeat (first | refine blk_drewN ?_ _ | refine blk_drew ?_ | refine blk_alloc ?_ _)); exact BK384.out)⟩; have n1_ : Aside0 (Below w.heap.size w wc) := ⟨by rw [← hq_]; exact (by repeat (first | (with_reducible first | exact HB.out | apply below_alloc | apply pw_below_drewN | apply below_drew1 | refine below_set ?_ GE384.out) | exact HB.out))⟩; clear BK384 HB hq_; have BK384 := n0_; have HB := n1_; clear n0_ n1_)); have hcz14_0 : wc.cell? ⟨gb384, 0, none⟩ = some (.int .i64 0) := (blk_cell BK384.out 0).trans rfl; have hcz14_1 : wc.cell? ⟨gb384, 1, none⟩ = some (.int .i64 0) := (blk_cell BK384.out 1).trans rfl; have hcz14_2 : wc.cell? ⟨gb384, 2, none⟩ = some (.int .i64 0) := (blk_cell BK384.out 2).trans rfl; have hcz14_3 : wc.cell? ⟨gb384, 3, none⟩ = some (.int .i64 0) := (blk_cell BK384.out 3).trans rfl; have hcz14_4 : wc.cell? ⟨gb384, 4, none⟩ = some (.int .i64 0) := (blk_cell BK384.out 4).trans rfl; have hcz14_5 : wc.cell? ⟨gb384, 5, none⟩ = some (.int .i64 0) := (blk_cell BK384.out 5).trans rfl; have hcz14_6 : wc.cell? ⟨gb384, 6, none⟩ = some (.int .i64 0) := (blk_cell BK384.out 6).trans rfl; have hfz14_0 := blk_frozen BK384.out 0; have hfz14_1 := blk_frozen BK384.out 1; have hfz14_2 := blk_frozen BK384.out 2; have hfz14_3 := blk_frozen BK384.out 3; have hfz14_4 := blk_frozen BK384.out 4; have hfz14_5 := blk_frozen BK384.out 5; have hfz14_6 := blk_frozen BK384.out 6))
        refine bodyPost_ret (results_ct rfl _ _ gb384 23 #[.int .i64 0, .int .i64 0, .int .i64 0, .int .i64 0, .int .i64 0, .int .i64 0, .int .i64 0] (0, 0) _ rfl (by (with_reducible repeat (first | refine blk_drewN ?_ _ | refine blk_drew ?_ | refine blk_alloc ?_ _)); refine blk_put (cs := #[.int .i64 0, .int .i64 0, .int .i64 0, .int .i64 0, .int .i64 0, .int .i64 0, .int .i64 0]) ?_ 6 _ rfl; (with_reducible repeat (first | refine blk_drewN ?_ _ | refine blk_drew ?_ | refine blk_alloc ?_ _)); refine blk_put (cs := #[.int .i64 0, .int .i64 0, .int .i64 0, .int .i64 0, .int .i64 0, .int .i64 0, .int .i64 0]) ?_ 5 _ rfl; (with_reducible repeat (first | refine blk_drewN ?_ _ | refine blk_drew ?_ | refine blk_alloc ?_ _)); refine blk_put (cs := #[.int .i64 0, .int .i64 0, .int .i64 0, .int .i64 0, .int .i64 0, .int .i64 0, .int .i64 0]) ?_ 4 _ rfl; (with_reducible repeat (first | refine blk_drewN ?_ _ | refine blk_drew ?_ | refine blk_alloc ?_ _)); refine blk_put (cs := #[.int .i64 0, .int .i64 0, .int .i64 0, .int .i64 0, .int .i64 0, .int .i64 0, .int .i64 0]) ?_ 3 _ rfl; (with_reducible repeat (first | refine blk_drewN ?_ _ | refine blk_drew ?_ | refine blk_alloc ?_ _)); refine blk_put (cs := #[.int .i64 0, .int .i64 0, .int .i64 0, .int .i64 0, .int .i64 0, .int .i64 0, .int .i64 0]) ?_ 2 _ rfl; (with_reducible repeat (first | refine blk_drewN ?_ _ | refine blk_drew ?_ | refine blk_alloc ?_ _)); refine blk_put (cs := #[.int .i64 0, .int .i64 0, .int .i64 0, .int .i64 0, .int .i64 0, .int .i64 0, .int .i64 0]) ?_ 1 _ rfl; (with_reducible repeat (first | refine blk_drewN ?_ _ | refine blk_drew ?_ | refine blk_alloc ?_ _)); refine blk_put (cs := #[.int .i64 0, .int .i64 0, .int .i64 0, .int .i64 0, .int .i64 0, .int .i64 0, .int .i64 0]) ?_ 0 _ rfl; (with_reducible repeat (first | refine blk_drewN ?_ _ | refine blk_drew ?_ | refine blk_alloc ?_ _)); exact BK384.out) Tryd.underlying23 rfl (by kernel_rfl)) rfl ?_
        exact ⟨by first | rfl | (simp [errW_none, errW_some] <;> rfl) | (simp [*, errW_none, errW_some] <;> rfl), by repeat (first | (with_reducible first | exact HB.out | apply below_alloc | apply pw_below_drewN | apply below_drew1 | refine below_set ?_ GE384.out) | exact HB.out)⟩
       ·rw [if_neg c13] at H
        have c13b0 : decide (t385 < (-719162)) = false := decide_eq_false c13
        clear c13
        by_cases c15 : t385 > 2932896
        ·rw [if_pos c15] at H
         have c15b0 : decide (2932896 < t385) = true := decide_eq_true c15
         clear c15
         simp only [Option.some.injEq, Prod.mk.injEq] at H
         obtain ⟨rfl, rfl, rfl, rfl, rfl, rfl, rfl, rfl⟩ := H
         go_wp2_with (first | ((with_reducible refine gate_callee (f := 48) rfl ?_); refine goesL_ (some 28) rfl rfl Tryd.func48 (by kernel_rfl) rfl #[.int .i64 (wrap64 (a0 + (wrap64 (60 * a1)))), .int .i64 86400] rfl (by (try simp only [List.map_toArray, List.map_cons, List.map_nil]); first | done | rfl | (simp only [List.length_drop, List.length_take]; rfl)) ?_; (with_reducible refine (moment_floor.calls (wrap64 (a0 + (wrap64 (60 * a1)))) 86400 t385 t386 _ A12.out).mono ?_); rintro e w' ⟨rfl, ⟨nd, rfl⟩⟩; refine ⟨_, rfl, ?_⟩; (try (rw [drewN_self wc]; generalize hq_ : World.drewN wc _ = wc; have n0_ : Aside0 (wc.heap[gb384]? = some (.cells #[.int .i64 0, .int .i64 0, .int .i64 0, .int .i64 0, .int .i64 0, .int .i64 0, .int .i64 0] 23 (0, 0))) := ⟨by rw [← hq_]; exact (by (with_reducible repeat (first | refine blk_drewN ?_ _ | refine blk_drew ?_ | refine blk_alloc ?_ _)); exact BK384.out)⟩; have n1_ : Aside0 (Below w.heap.size w wc) := ⟨by rw [← hq_]; exact (by repeat (first | (with_reducible first | exact HB.out | apply below_alloc | apply pw_below_drewN | apply below_drew1 | refine below_set ?_ GE384.out) | exact HB.out))⟩; clear BK384 HB hq_; have BK384 := n0_; have HB := n1_; clear n0_ n1_)); have hcz16_0 : wc.cell? ⟨gb384, 0, none⟩ = some (.int .i64 0) := (blk_cell BK384.out 0).trans rfl; have hcz16_1 : wc.cell? ⟨gb384, 1, none⟩ = some (.int .i64 0) := (blk_cell BK384.out 1).trans rfl; have hcz16_2 : wc.cell? ⟨gb384, 2, none⟩ = some (.int .i64 0) := (blk_cell BK384.out 2).trans rfl; have hcz16_3 : wc.cell? ⟨gb384, 3, none⟩ = some (.int .i64 0) := (blk_cell BK384.out 3).trans rfl; have hcz16_4 : wc.cell? ⟨gb384, 4, none⟩ = some (.int .i64 0) := (blk_cell BK384.out 4).trans rfl; have hcz16_5 : wc.cell? ⟨gb384, 5, none⟩ = some (.int .i64 0) := (blk_cell BK384.out 5).trans rfl; have hcz16_6 : wc.cell? ⟨gb384, 6, none⟩ = some (.int .i64 0) := (blk_cell BK384.out 6).trans rfl; have hfz16_0 := blk_frozen BK384.out 0; have hfz16_1 := blk_frozen BK384.out 1; have hfz16_2 := blk_frozen BK384.out 2; have hfz16_3 := blk_frozen BK384.out 3; have hfz16_4 := blk_frozen BK384.out 4; have hfz16_5 := blk_frozen BK384.out 5; have hfz16_6 := blk_frozen BK384.out 6))
         refine bodyPost_ret (results_ct rfl _ _ gb384 23 #[.int .i64 0, .int .i64 0, .int .i64 0, .int .i64 0, .int .i64 0, .int .i64 0, .int .i64 0] (0, 0) _ rfl (by (with_reducible repeat (first | refine blk_drewN ?_ _ | refine blk_drew ?_ | refine blk_alloc ?_ _)); refine blk_put (cs := #[.int .i64 0, .int .i64 0, .int .i64 0, .int .i64 0, .int .i64 0, .int .i64 0, .int .i64 0]) ?_ 6 _ rfl; (with_reducible repeat (first | refine blk_drewN ?_ _ | refine blk_drew ?_ | refine blk_alloc ?_ _)); refine blk_put (cs := #[.int .i64 0, .int .i64 0, .int .i64 0, .int .i64 0, .int .i64 0, .int .i64 0, .int .i64 0]) ?_ 5 _ rfl; (with_reducible repeat (first | refine blk_drewN ?_ _ | refine blk_drew ?_ | refine blk_alloc ?_ _)); refine blk_put (cs := #[.int .i64 0, .int .i64 0, .int .i64 0, .int .i64 0, .int .i64 0, .int .i64 0, .int .i64 0]) ?_ 4 _ rfl; (with_reducible repeat (first | refine blk_drewN ?_ _ | refine blk_drew ?_ | refine blk_alloc ?_ _)); refine blk_put (cs := #[.int .i64 0, .int .i64 0, .int .i64 0, .int .i64 0, .int .i64 0, .int .i64 0, .int .i64 0]) ?_ 3 _ rfl; (with_reducible repeat (first | refine blk_drewN ?_ _ | refine blk_drew ?_ | refine blk_alloc ?_ _)); refine blk_put (cs := #[.int .i64 0, .int .i64 0, .int .i64 0, .int .i64 0, .int .i64 0, .int .i64 0, .int .i64 0]) ?_ 2 _ rfl; (with_reducible repeat (first | refine blk_drewN ?_ _ | refine blk_drew ?_ | refine blk_alloc ?_ _)); refine blk_put (cs := #[.int .i64 0, .int .i64 0, .int .i64 0, .int .i64 0, .int .i64 0, .int .i64 0, .int .i64 0]) ?_ 1 _ rfl; (with_reducible repeat (first | refine blk_drewN ?_ _ | refine blk_drew ?_ | refine blk_alloc ?_ _)); refine blk_put (cs := #[.int .i64 0, .int .i64 0, .int .i64 0, .int .i64 0, .int .i64 0, .int .i64 0, .int .i64 0]) ?_ 0 _ rfl; (with_reducible repeat (first | refine blk_drewN ?_ _ | refine blk_drew ?_ | refine blk_alloc ?_ _)); exact BK384.out) Tryd.underlying23 rfl (by kernel_rfl)) rfl ?_
         exact ⟨by first | rfl | (simp [errW_none, errW_some] <;> rfl) | (simp [*, errW_none, errW_some] <;> rfl), by repeat (first | (with_reducible first | exact HB.out | apply below_alloc | apply pw_below_drewN | apply below_drew1 | refine below_set ?_ GE384.out) | exact HB.out)⟩
        ·rw [if_neg c15] at H
         have c15b0 : decide (2932896 < t385) = false := decide_eq_false c15
         clear c15
         replace H := Option.bind_eq_some_iff.mp H
         obtain ⟨⟨t387, t388, t389, t390, t391, t392, t393⟩, A170, H⟩ := H
         replace H : (some (t387, t388, t389, wrap64 (Int.tdiv t386 3600), Int.tmod (wrap64 (Int.tdiv t386 60)) 60, Int.tmod t386 60, a1, 0)) = some (r1, r2, r3, r4, r5, r6, r7, r8) := H
         have A17 := Aside0.mk A170
         clear A170
         simp only [Option.some.injEq, Prod.mk.injEq] at H
         obtain ⟨rfl, rfl, rfl, rfl, rfl, rfl, rfl, rfl⟩ := H
         go_upto_region 9 with (first | ((with_reducible refine gate_callee (f := 48) rfl ?_); refine goesL_ (some 28) rfl rfl Tryd.func48 (by kernel_rfl) rfl #[.int .i64 (wrap64 (a0 + (wrap64 (60 * a1)))), .int .i64 86400] rfl (by (try simp only [List.map_toArray, List.map_cons, List.map_nil]); first | done | rfl | (simp only [List.length_drop, List.length_take]; rfl)) ?_; (with_reducible refine (moment_floor.calls (wrap64 (a0 + (wrap64 (60 * a1)))) 86400 t385 t386 _ A12.out).mono ?_); rintro e w' ⟨rfl, ⟨nd, rfl⟩⟩; refine ⟨_, rfl, ?_⟩; (try (rw [drewN_self wc]; generalize hq_ : World.drewN wc _ = wc; have n0_ : Aside0 (wc.heap[gb384]? = some (.cells #[.int .i64 0, .int .i64 0, .int .i64 0, .int .i64 0, .int .i64 0, .int .i64 0, .int .i64 0] 23 (0, 0))) := ⟨by rw [← hq_]; exact (by (with_reducible repeat (first | refine blk_drewN ?_ _ | refine blk_drew ?_ | refine blk_alloc ?_ _)); exact BK384.out)⟩; have n1_ : Aside0 (Below w.heap.size w wc) := ⟨by rw [← hq_]; exact (by repeat (first | (with_reducible first | exact HB.out | apply below_alloc | apply pw_below_drewN | apply below_drew1 | refine below_set ?_ GE384.out) | exact HB.out))⟩; clear BK384 HB hq_; have BK384 := n0_; have HB := n1_; clear n0_ n1_))) | ((with_reducible refine gate_callee (f := 73) rfl ?_); refine goesL_ (some 40) rfl rfl Tryd.func73 (by kernel_rfl) rfl #[.int .i64 (wrap64 (t385 + 719162))] rfl (by (try simp only [List.map_toArray, List.map_cons, List.map_nil]); first | done | rfl | (simp only [List.length_drop, List.length_take]; rfl)) ?_; (with_reducible refine (moment_civil.calls kj7 (wrap64 (t385 + 719162)) t387 t388 t389 t390 t391 t392 t393 _ A17.out (by first | exact laid_below HL_.out (by repeat (first | (with_reducible first | exact HB.out | apply below_alloc | apply pw_below_drewN | apply below_drew1) | exact HB.out)) | exact laid_drawn HL_.out (by repeat (first | exact Drawn0.refl _ | apply Drawn0.step)))).mono ?_); rintro e w18 ⟨rfl, hb⟩; refine ⟨_, rfl, ?_⟩; have n0_ := Aside0.mk (blk_below (g := gb384) (o := .cells #[.int .i64 0, .int .i64 0, .int .i64 0, .int .i64 0, .int .i64 0, .int .i64 0, .int .i64 0] 23 (0, 0)) (by (with_reducible repeat (first | refine blk_drewN ?_ _ | refine blk_drew ?_ | refine blk_alloc ?_ _)); exact BK384.out) hb); have n1_ := Aside0.mk (below_step (by repeat (first | (with_reducible first | exact HB.out | apply below_alloc | apply pw_below_drewN | apply below_drew1 | refine below_set ?_ GE384.out) | exact HB.out)) hb); clear BK384; clear HB; have BK384 := n0_; have HB := n1_; clear n0_ n1_; (try clear hb); (try clear hb2); (try clear hk); (try clear hi)) | ((with_reducible refine gate_dst (N := 8) rfl ?_); refine box_event ?hg (N := 8) ?hd (cs := #[.int .i64 0, .int .i64 0, .int .i64 0, .int .i64 0, .int .i64 0, .int .i64 0, .int .i64 0]) (t := 23) ?hr ?_; (case hd => rfl); (case hg => rfl); (case hr => first | (go_simp; done) | (go_simp; rfl)); intro gb394 hg w19 hbox hb; have n0_ := Aside0.mk (blk_below (g := gb384) (o := .cells #[.int .i64 0, .int .i64 0, .int .i64 0, .int .i64 0, .int .i64 0, .int .i64 0, .int .i64 0] 23 (0, 0)) (by (with_reducible repeat (first | refine blk_drewN ?_ _ | refine blk_drew ?_ | refine blk_alloc ?_ _)); exact BK384.out) hb); have n1_ := Aside0.mk (below_step (by repeat (first | (with_reducible first | exact HB.out | apply below_alloc | apply pw_below_drewN | apply below_drew1 | refine below_set ?_ GE384.out) | exact HB.out)) hb); have n2_ := Aside0.mk (hbox); have n3_ := Aside0.mk ((by rw [hg]; exact (below_size (by repeat (first | (with_reducible first | exact HB.out | apply below_alloc | apply pw_below_drewN | apply below_drew1 | refine below_set ?_ GE384.out) | exact HB.out))) : w.heap.size ≤ gb394)); have n4_ := Aside0.mk ((by rw [hg]; exact (below_size (by repeat (first | (with_reducible first | exact HB.out | apply below_alloc | apply pw_below_drewN | apply below_drew1 | refine below_set ?_ GE384.out) | exact HB.out))) : w.heap.size ≤ gb394)); have n5_ := Aside0.mk ((by rw [hg]; exact Nat.ne_of_lt (blk_lt (g := gb384) (o := .cells #[.int .i64 0, .int .i64 0, .int .i64 0, .int .i64 0, .int .i64 0, .int .i64 0, .int .i64 0] 23 (0, 0)) (by (with_reducible repeat (first | refine blk_drewN ?_ _ | refine blk_drew ?_ | refine blk_alloc ?_ _)); exact BK384.out)) : gb384 ≠ gb394)); have n6_ := Aside0.mk ((by rw [hg]; exact Nat.ne_of_gt (blk_lt (g := gb384) (o := .cells #[.int .i64 0, .int .i64 0, .int .i64 0, .int .i64 0, .int .i64 0, .int .i64 0, .int .i64 0] 23 (0, 0)) (by (with_reducible repeat (first | refine blk_drewN ?_ _ | refine blk_drew ?_ | refine blk_alloc ?_ _)); exact BK384.out)) : gb394 ≠ gb384)); clear BK384; clear HB; have BK384 := n0_; have HB := n1_; have BK394 := n2_; have GW394 := n3_; have GE394 := n4_; have NB384_394 := n5_; have NB394_384 := n6_; clear n0_ n1_ n2_ n3_ n4_ n5_ n6_; clear hb hbox hg; have hnb20 := NB394_384.out; have hnc20 := NB384_394.out; have hcz21_0 : w19.cell? ⟨gb394, 0, none⟩ = some (.int .i64 0) := (blk_cell BK394.out 0).trans rfl; have hcz21_1 : w19.cell? ⟨gb394, 1, none⟩ = some (.int .i64 0) := (blk_cell BK394.out 1).trans rfl; have hcz21_2 : w19.cell? ⟨gb394, 2, none⟩ = some (.int .i64 0) := (blk_cell BK394.out 2).trans rfl; have hcz21_3 : w19.cell? ⟨gb394, 3, none⟩ = some (.int .i64 0) := (blk_cell BK394.out 3).trans rfl; have hcz21_4 : w19.cell? ⟨gb394, 4, none⟩ = some (.int .i64 0) := (blk_cell BK394.out 4).trans rfl; have hcz21_5 : w19.cell? ⟨gb394, 5, none⟩ = some (.int .i64 0) := (blk_cell BK394.out 5).trans rfl; have hcz21_6 : w19.cell? ⟨gb394, 6, none⟩ = some (.int .i64 0) := (blk_cell BK394.out 6).trans rfl; have hfz21_0 := blk_frozen BK394.out 0; have hfz21_1 := blk_frozen BK394.out 1; have hfz21_2 := blk_frozen BK394.out 2; have hfz21_3 := blk_frozen BK394.out 3; have hfz21_4 := blk_frozen BK394.out 4; have hfz21_5 := blk_frozen BK394.out 5; have hfz21_6 := blk_frozen BK394.out 6; have hcz22_0 : w19.cell? ⟨gb384, 0, none⟩ = some (.int .i64 0) := (blk_cell BK384.out 0).trans rfl; have hcz22_1 : w19.cell? ⟨gb384, 1, none⟩ = some (.int .i64 0) := (blk_cell BK384.out 1).trans rfl; have hcz22_2 : w19.cell? ⟨gb384, 2, none⟩ = some (.int .i64 0) := (blk_cell BK384.out 2).trans rfl; have hcz22_3 : w19.cell? ⟨gb384, 3, none⟩ = some (.int .i64 0) := (blk_cell BK384.out 3).trans rfl; have hcz22_4 : w19.cell? ⟨gb384, 4, none⟩ = some (.int .i64 0) := (blk_cell BK384.out 4).trans rfl; have hcz22_5 : w19.cell? ⟨gb384, 5, none⟩ = some (.int .i64 0) := (blk_cell BK384.out 5).trans rfl; have hcz22_6 : w19.cell? ⟨gb384, 6, none⟩ = some (.int .i64 0) := (blk_cell BK384.out 6).trans rfl; have hfz22_0 := blk_frozen BK384.out 0; have hfz22_1 := blk_frozen BK384.out 1; have hfz22_2 := blk_frozen BK384.out 2; have hfz22_3 := blk_frozen BK384.out 3; have hfz22_4 := blk_frozen BK384.out 4; have hfz22_5 := blk_frozen BK384.out 5; have hfz22_6 := blk_frozen BK384.out 6))
         have S7 := set7 BK394.out (.int .i64 t387) (.int .i64 t388) (.int .i64 t389) (.int .i64 t390) (.int .i64 t391) (.int .i64 t392) (.int .i64 t393)
         have n0_ := Lib.hid S7.1
         have n1_ := Lib.hid (S7.2 _ _ HB.out GE394.out)
         have n2_ : Aside0 ((((((((w19.setCell ⟨gb394, 0, none⟩ (.int .i64 t387)).setCell ⟨gb394, 1, none⟩ (.int .i64 t388)).setCell ⟨gb394, 2, none⟩ (.int .i64 t389)).setCell ⟨gb394, 3, none⟩ (.int .i64 t390)).setCell ⟨gb394, 4, none⟩ (.int .i64 t391)).setCell ⟨gb394, 5, none⟩ (.int .i64 t392)).setCell ⟨gb394, 6, none⟩ (.int .i64 t393)).heap[gb384]? = some (.cells #[.int .i64 0, .int .i64 0, .int .i64 0, .int .i64 0, .int .i64 0, .int .i64 0, .int .i64 0] 23 (0, 0))) := ⟨by (repeat (refine blk_far ?_ NB384_394.out _)); exact BK384.out⟩
         clear S7
         generalize (((((((w19.setCell ⟨gb394, 0, none⟩ (.int .i64 t387)).setCell ⟨gb394, 1, none⟩ (.int .i64 t388)).setCell ⟨gb394, 2, none⟩ (.int .i64 t389)).setCell ⟨gb394, 3, none⟩ (.int .i64 t390)).setCell ⟨gb394, 4, none⟩ (.int .i64 t391)).setCell ⟨gb394, 5, none⟩ (.int .i64 t392)).setCell ⟨gb394, 6, none⟩ (.int .i64 t393)) = w20 at *
         clear BK394 BK384 HB
         clear hcz21_0 hcz21_1 hcz21_2 hcz21_3 hcz21_4 hcz21_5 hcz21_6 hfz21_0 hfz21_1 hfz21_2 hfz21_3 hfz21_4 hfz21_5 hfz21_6 hcz22_0 hcz22_1 hcz22_2 hcz22_3 hcz22_4 hcz22_5 hcz22_6 hfz22_0 hfz22_1 hfz22_2 hfz22_3 hfz22_4 hfz22_5 hfz22_6
         obtain ⟨⟨k0, k1, k2, k3, k4, k5, k6⟩, kf⟩ := cells7 n0_.out
         have kf3 := kf 3
         have kf4 := kf 4
         have kf5 := kf 5
         have kf6 := kf 6
         go_upto_region 10 with fail
         have m0_ := Aside0.mk (blk_put (cs' := #[.int .i64 t387, .int .i64 t388, .int .i64 t389, .int .i64 (wrap64 (Int.tdiv t386 3600)), .int .i64 (Int.tmod (wrap64 (Int.tdiv t386 60)) 60), .int .i64 (Int.tmod t386 60), .int .i64 a1]) (blk_put (cs' := #[.int .i64 t387, .int .i64 t388, .int .i64 t389, .int .i64 (wrap64 (Int.tdiv t386 3600)), .int .i64 (Int.tmod (wrap64 (Int.tdiv t386 60)) 60), .int .i64 (Int.tmod t386 60), .int .i64 t393]) (blk_put (cs' := #[.int .i64 t387, .int .i64 t388, .int .i64 t389, .int .i64 (wrap64 (Int.tdiv t386 3600)), .int .i64 (Int.tmod (wrap64 (Int.tdiv t386 60)) 60), .int .i64 t392, .int .i64 t393]) (blk_put (cs' := #[.int .i64 t387, .int .i64 t388, .int .i64 t389, .int .i64 (wrap64 (Int.tdiv t386 3600)), .int .i64 t391, .int .i64 t392, .int .i64 t393]) n0_.out 3 (.int .i64 (wrap64 (Int.tdiv t386 3600))) rfl) 4 (.int .i64 (Int.tmod (wrap64 (Int.tdiv t386 60)) 60)) rfl) 5 (.int .i64 (Int.tmod t386 60)) rfl) 6 (.int .i64 a1) rfl)
         have m1_ := Aside0.mk (Below.setCell (Below.setCell (Below.setCell (Below.setCell n1_.out (p := ⟨gb394, 3, none⟩) GE394.out (.int .i64 (wrap64 (Int.tdiv t386 3600)))) (p := ⟨gb394, 4, none⟩) GE394.out (.int .i64 (Int.tmod (wrap64 (Int.tdiv t386 60)) 60))) (p := ⟨gb394, 5, none⟩) GE394.out (.int .i64 (Int.tmod t386 60))) (p := ⟨gb394, 6, none⟩) GE394.out (.int .i64 a1))
         have m2_ : Aside0 (((((w20.setCell ⟨gb394, 3, none⟩ (.int .i64 (wrap64 (Int.tdiv t386 3600)))).setCell ⟨gb394, 4, none⟩ (.int .i64 (Int.tmod (wrap64 (Int.tdiv t386 60)) 60))).setCell ⟨gb394, 5, none⟩ (.int .i64 (Int.tmod t386 60))).setCell ⟨gb394, 6, none⟩ (.int .i64 a1)).heap[gb384]? = some (.cells #[.int .i64 0, .int .i64 0, .int .i64 0, .int .i64 0, .int .i64 0, .int .i64 0, .int .i64 0] 23 (0, 0))) := ⟨by (repeat (refine blk_far ?_ NB384_394.out _)); exact n2_.out⟩
         generalize ((((w20.setCell ⟨gb394, 3, none⟩ (.int .i64 (wrap64 (Int.tdiv t386 3600)))).setCell ⟨gb394, 4, none⟩ (.int .i64 (Int.tmod (wrap64 (Int.tdiv t386 60)) 60))).setCell ⟨gb394, 5, none⟩ (.int .i64 (Int.tmod t386 60))).setCell ⟨gb394, 6, none⟩ (.int .i64 a1)) = w21 at *
         clear n0_ n1_ n2_ k0 k1 k2 k3 k4 k5 k6 kf kf3 kf4 kf5 kf6
         obtain ⟨⟨k0, k1, k2, k3, k4, k5, k6⟩, kf⟩ := cells7 m0_.out
         obtain ⟨⟨q0, q1, q2, q3, q4, q5, q6⟩, qf⟩ := cells7 m2_.out
         have qf0 := qf 0
         have qf1 := qf 1
         have qf2 := qf 2
         have qf3 := qf 3
         have qf4 := qf 4
         have qf5 := qf 5
         have qf6 := qf 6
         go_wp2
         exact bodyPost_ret (results_ct rfl _ _ gb384 23 #[.int .i64 t387, .int .i64 t388, .int .i64 t389, .int .i64 (wrap64 (Int.tdiv t386 3600)), .int .i64 (Int.tmod (wrap64 (Int.tdiv t386 60)) 60), .int .i64 (Int.tmod t386 60), .int .i64 a1] (0, 0) _ rfl (set7 m2_.out _ _ _ _ _ _ _).1 Tryd.underlying23 rfl (by kernel_rfl)) rfl ⟨rfl, (set7 m2_.out _ _ _ _ _ _ _).2 _ _ m1_.out GE384.out⟩
end Go.Proofs.YtjlchnmpebdggaaDoor.Mo
end
