import Derived.Test.YtjlchnmpebdggaaDoorJs1
import Derived.Test.YtjlchnmpebdggaaDoorJs2
import Derived.Test.YtjlchnmpebdggaaDoorJs4
import Derived.Test.YtjlchnmpebdggaaDoorJs3
import Derived.Test.YtjlchnmpebdggaaDoorJs7
import Derived.Test.YtjlchnmpebdggaaDoorRows
import Derived.ProofKit
import Derived.LaidMore
import Derived.OpenShut
import Derived.Stop.Joined
section
namespace Go.Proofs.YtjlchnmpebdggaaDoor.Mo
open Go.RowKit Go.Proofs.YtjlchnmpebdggaaDoorW.PrintWords Go.Proofs.YtjlchnmpebdggaaDoorW.PrintLast Go.Proofs.YtjlchnmpebdggaaDoorW.PrintMore
attribute [local go_sem] max2_int min2_int max_two min_two max_three min_three max_four min_four   -- for this text's walks alone
set_option linter.unusedVariables false
set_option linter.unusedSimpArgs false
def moment_civil.l0 : Nat → Int → Int → Int → Option (Int × Int × Int × Int × Int × Int × Int)
 | 0, _, _, _ => none
 | k + 1, x0, x3, x6 => (moment_length.f x3 x6).bind fun t382 => (if x0 ≥ t382 then ((moment_length.f x3 x6).bind fun t383 => (moment_civil.l0 k (wrap64 (x0 - t383)) x3 (wrap64 (x6 + 1)))) else (some (x3, x6, wrap64 (x0 + 1), 0, 0, 0, 0)))
def moment_civil.f (k : Nat) (a0 : Int) : Option (Int × Int × Int × Int × Int × Int × Int) := moment_civil.l0 k (wrap64 ((Int.tmod (wrap64 ((Int.tmod a0 146097) - (wrap64 (36524 * (mn (wrap64 (Int.tdiv (Int.tmod a0 146097) 36524)) 3))))) 1461) - (wrap64 (365 * (mn (wrap64 (Int.tdiv (Int.tmod (wrap64 ((Int.tmod a0 146097) - (wrap64 (36524 * (mn (wrap64 (Int.tdiv (Int.tmod a0 146097) 36524)) 3))))) 1461) 365)) 3))))) (wrap64 ((wrap64 ((wrap64 (1 + (wrap64 (400 * (wrap64 (Int.tdiv a0 146097)))))) + (wrap64 ((wrap64 (100 * (mn (wrap64 (Int.tdiv (Int.tmod a0 146097) 36524)) 3))) + (wrap64 (4 * (wrap64 (Int.tdiv (wrap64 ((Int.tmod a0 146097) - (wrap64 (36524 * (mn (wrap64 (Int.tdiv (Int.tmod a0 146097) 36524)) 3))))) 1461)))))))) + (mn (wrap64 (Int.tdiv (Int.tmod (wrap64 ((Int.tmod a0 146097) - (wrap64 (36524 * (mn (wrap64 (Int.tdiv (Int.tmod a0 146097) 36524)) 3))))) 1461) 365)) 3))) 1
set_option maxHeartbeats 8000000 in
set_option maxRecDepth 100000 in
theorem moment_civil.calls (k : Nat) (a0 : Int) (r1 : Int) (r2 : Int) (r3 : Int) (r4 : Int) (r5 : Int) (r6 : Int) (r7 : Int) (w : World) (h : moment_civil.f k a0 = some (r1, r2, r3, r4, r5, r6, r7)) (hL_ : Laid w) :
  Calls Tryd.prog 73 #[.int .i64 a0] w fun e w' => e = .returned (.agg #[.int .i64 r1, .int .i64 r2, .int .i64 r3, .int .i64 r4, .int .i64 r5, .int .i64 r6, .int .i64 r7]) ∧ Below w.heap.size w w' := by
 have HL_ := Aside0.mk hL_
 clear hL_
 have hu23 := Tryd.underlying23
 have HB := Aside0.mk (Below.refl w.heap.size w)
 have H : (moment_civil.l0 k (wrap64 ((Int.tmod (wrap64 ((Int.tmod a0 146097) - (wrap64 (36524 * (mn (wrap64 (Int.tdiv (Int.tmod a0 146097) 36524)) 3))))) 1461) - (wrap64 (365 * (mn (wrap64 (Int.tdiv (Int.tmod (wrap64 ((Int.tmod a0 146097) - (wrap64 (36524 * (mn (wrap64 (Int.tdiv (Int.tmod a0 146097) 36524)) 3))))) 1461) 365)) 3))))) (wrap64 ((wrap64 ((wrap64 (1 + (wrap64 (400 * (wrap64 (Int.tdiv a0 146097)))))) + (wrap64 ((wrap64 (100 * (mn (wrap64 (Int.tdiv (Int.tmod a0 146097) 36524)) 3))) + (wrap64 (4 * (wrap64 (Int.tdiv (wrap64 ((Int.tmod a0 146097) - (wrap64 (36524 * (mn (wrap64 (Int.tdiv (Int.tmod a0 146097) 36524)) 3))))) 1461)))))))) + (mn (wrap64 (Int.tdiv (Int.tmod (wrap64 ((Int.tmod a0 146097) - (wrap64 (36524 * (mn (wrap64 (Int.tdiv (Int.tmod a0 146097) 36524)) 3))))) 1461) 365)) 3))) 1) = some (r1, r2, r3, r4, r5, r6, r7) := h
 clear h
 obtain ⟨ji2, hji2⟩ : ∃ j_ : Int, (mn (wrap64 (Int.tdiv (Int.tmod a0 146097) 36524)) 3) = j_ := ⟨_, rfl⟩
 replace H : (moment_civil.l0 k (wrap64 ((Int.tmod (wrap64 ((Int.tmod a0 146097) - (wrap64 (36524 * (ji2))))) 1461) - (wrap64 (365 * (mn (wrap64 (Int.tdiv (Int.tmod (wrap64 ((Int.tmod a0 146097) - (wrap64 (36524 * (ji2))))) 1461) 365)) 3))))) (wrap64 ((wrap64 ((wrap64 (1 + (wrap64 (400 * (wrap64 (Int.tdiv a0 146097)))))) + (wrap64 ((wrap64 (100 * (ji2))) + (wrap64 (4 * (wrap64 (Int.tdiv (wrap64 ((Int.tmod a0 146097) - (wrap64 (36524 * (ji2))))) 1461)))))))) + (mn (wrap64 (Int.tdiv (Int.tmod (wrap64 ((Int.tmod a0 146097) - (wrap64 (36524 * (ji2))))) 1461) 365)) 3))) 1) = some (r1, r2, r3, r4, r5, r6, r7) := by first | (rw [hji2] at H; exact H) | (simp only [hji2] at H ⊢; exact H)
 (try (have hji2h : ji2 ≤ 3 := by (rw [← hji2]; unfold mn; (repeat' split) <;> omega)))
 (try (have hji2g : ji2 ≤ 64 := by omega))
 have hji2_ : (if 3 < (wrap64 (Int.tdiv (Int.tmod a0 146097) 36524)) then 3 else (wrap64 (Int.tdiv (Int.tmod a0 146097) 36524))) = ji2 := hji2
 obtain ⟨ji3, hji3⟩ : ∃ j_ : Int, (mn (wrap64 (Int.tdiv (Int.tmod (wrap64 ((Int.tmod a0 146097) - (wrap64 (36524 * (ji2))))) 1461) 365)) 3) = j_ := ⟨_, rfl⟩
 replace H : (moment_civil.l0 k (wrap64 ((Int.tmod (wrap64 ((Int.tmod a0 146097) - (wrap64 (36524 * (ji2))))) 1461) - (wrap64 (365 * (ji3))))) (wrap64 ((wrap64 ((wrap64 (1 + (wrap64 (400 * (wrap64 (Int.tdiv a0 146097)))))) + (wrap64 ((wrap64 (100 * (ji2))) + (wrap64 (4 * (wrap64 (Int.tdiv (wrap64 ((Int.tmod a0 146097) - (wrap64 (36524 * (ji2))))) 1461)))))))) + (ji3))) 1) = some (r1, r2, r3, r4, r5, r6, r7) := by first | (rw [hji3] at H; exact H) | (simp only [hji3] at H ⊢; exact H)
 have hji3_ : (if 3 < (wrap64 (Int.tdiv (Int.tmod (wrap64 ((Int.tmod a0 146097) - (wrap64 (36524 * (ji2))))) 1461) 365)) then 3 else (wrap64 (Int.tdiv (Int.tmod (wrap64 ((Int.tmod a0 146097) - (wrap64 (36524 * (ji2))))) 1461) 365))) = ji3 := hji3
 have H' := Aside0.mk H
 clear H
 go_enter Tryd.func73, Tryd.ntmps73
 go_wp2_with (first | ((with_reducible refine gate_dst (N := 2) rfl ?_); refine box_event ?hg (N := 2) ?hd (cs := #[.int .i64 0, .int .i64 0, .int .i64 0, .int .i64 0, .int .i64 0, .int .i64 0, .int .i64 0]) (t := 23) ?hr ?_; (case hd => rfl); (case hg => rfl); (case hr => first | (go_simp; done) | (go_simp; rfl)); intro gb381 hg w4 hbox hb; have n0_ := Aside0.mk (below_step (by repeat (first | (with_reducible first | exact HB.out | apply below_alloc | apply pw_below_drewN | apply below_drew1) | exact HB.out)) hb); have n1_ := Aside0.mk (hbox); have n2_ := Aside0.mk ((by rw [hg]; exact (below_size (by repeat (first | (with_reducible first | exact HB.out | apply below_alloc | apply pw_below_drewN | apply below_drew1) | exact HB.out))) : w.heap.size ≤ gb381)); have n3_ := Aside0.mk ((by rw [hg]; exact (below_size (by repeat (first | (with_reducible first | exact HB.out | apply below_alloc | apply pw_below_drewN | apply below_drew1) | exact HB.out))) : w.heap.size ≤ gb381)); clear HB; have HB := n0_; have BK381 := n1_; have GW381 := n2_; have GE381 := n3_; clear n0_ n1_ n2_ n3_; clear hb hbox hg))
 go_loopg [0, 6] k (fun kq v0 v6 w' => ∃ (x0_1 : Int) (x6_1 : Int), v0 = .int .i64 x0_1 ∧ v6 = .int .i64 x6_1 ∧ Aside0 (moment_civil.l0 kq x0_1 (wrap64 ((wrap64 ((wrap64 (1 + (wrap64 (400 * (wrap64 (Int.tdiv a0 146097)))))) + (wrap64 ((wrap64 (100 * (ji2))) + (wrap64 (4 * (wrap64 (Int.tdiv (wrap64 ((Int.tmod a0 146097) - (wrap64 (36524 * (ji2))))) 1461)))))))) + (ji3))) x6_1 = some (r1, r2, r3, r4, r5, r6, r7)) ∧ Aside0 (kq ≤ k) ∧ Aside0 (w'.heap[gb381]? = some (.cells #[.int .i64 0, .int .i64 0, .int .i64 0, .int .i64 0, .int .i64 0, .int .i64 0, .int .i64 0] 23 (0, 0))) ∧ Aside0 (Below w.heap.size w w'))
 case atStart => exact ⟨(wrap64 ((Int.tmod (wrap64 ((Int.tmod a0 146097) - (wrap64 (36524 * (ji2))))) 1461) - (wrap64 (365 * (ji3))))), (1), (by first | rfl | (simp; done) | (simp only [← hji2, ← hji3] <;> (first | rfl | simp)) | (simp [*]; done)), (by first | rfl | (simp; done) | (simp [*]; done)), H', ⟨Nat.le_refl _⟩, ⟨by (with_reducible repeat (first | refine blk_drewN ?_ _ | refine blk_drew ?_ | refine blk_alloc ?_ _)); exact BK381.out⟩, ⟨by repeat (first | (with_reducible first | exact HB.out | apply below_alloc | apply pw_below_drewN | apply below_drew1 | refine below_set ?_ GE381.out) | exact HB.out)⟩⟩
 case round =>
  clear H'
  try clear p2
  obtain ⟨x0_1, x6_1, rfl, rfl, HA, HK1, BK381, HB⟩ := hrel
  cases gk with
  | zero => exact absurd HA.out (by simp [moment_civil.l0])
  | succ k1 =>
   have H := HA.out
   clear HA
   simp only [moment_civil.l0] at H
   replace H := Option.bind_eq_some_iff.mp H
   obtain ⟨t382, A50, H⟩ := H
   replace H : (if x0_1 ≥ t382 then ((moment_length.f (wrap64 ((wrap64 ((wrap64 (1 + (wrap64 (400 * (wrap64 (Int.tdiv a0 146097)))))) + (wrap64 ((wrap64 (100 * (ji2))) + (wrap64 (4 * (wrap64 (Int.tdiv (wrap64 ((Int.tmod a0 146097) - (wrap64 (36524 * (ji2))))) 1461)))))))) + (ji3))) x6_1).bind fun t383 => (moment_civil.l0 k1 (wrap64 (x0_1 - t383)) (wrap64 ((wrap64 ((wrap64 (1 + (wrap64 (400 * (wrap64 (Int.tdiv a0 146097)))))) + (wrap64 ((wrap64 (100 * (ji2))) + (wrap64 (4 * (wrap64 (Int.tdiv (wrap64 ((Int.tmod a0 146097) - (wrap64 (36524 * (ji2))))) 1461)))))))) + (ji3))) (wrap64 (x6_1 + 1)))) else (some ((wrap64 ((wrap64 ((wrap64 (1 + (wrap64 (400 * (wrap64 (Int.tdiv a0 146097)))))) + (wrap64 ((wrap64 (100 * (ji2))) + (wrap64 (4 * (wrap64 (Int.tdiv (wrap64 ((Int.tmod a0 146097) - (wrap64 (36524 * (ji2))))) 1461)))))))) + (ji3))), x6_1, wrap64 (x0_1 + 1), 0, 0, 0, 0))) = some (r1, r2, r3, r4, r5, r6, r7) := H
   have A5 := Aside0.mk A50
   clear A50
   by_cases c6 : x0_1 ≥ t382
   ·rw [if_pos c6] at H
    have c6b0 : decide (t382 ≤ x0_1) = true := decide_eq_true c6
    clear c6
    replace H := Option.bind_eq_some_iff.mp H
    obtain ⟨t383, A70, H⟩ := H
    replace H : (moment_civil.l0 k1 (wrap64 (x0_1 - t383)) (wrap64 ((wrap64 ((wrap64 (1 + (wrap64 (400 * (wrap64 (Int.tdiv a0 146097)))))) + (wrap64 ((wrap64 (100 * (ji2))) + (wrap64 (4 * (wrap64 (Int.tdiv (wrap64 ((Int.tmod a0 146097) - (wrap64 (36524 * (ji2))))) 1461)))))))) + (ji3))) (wrap64 (x6_1 + 1))) = some (r1, r2, r3, r4, r5, r6, r7) := H
    have A7 := Aside0.mk A70
    clear A70
    have H' := Aside0.mk H
    clear H
    go_wp2_with (first | ((with_reducible refine gate_callee (f := 47) rfl ?_); refine goesL_ (some 43) rfl rfl Tryd.func47 (by kernel_rfl) rfl #[.int .i64 (wrap64 ((wrap64 ((wrap64 (1 + (wrap64 (400 * (wrap64 (Int.tdiv a0 146097)))))) + (wrap64 ((wrap64 (100 * (ji2))) + (wrap64 (4 * (wrap64 (Int.tdiv (wrap64 ((Int.tmod a0 146097) - (wrap64 (36524 * (ji2))))) 1461)))))))) + (ji3))), .int .i64 x6_1] rfl (by (try simp only [List.map_toArray, List.map_cons, List.map_nil]); first | done | (simp only [hji2, hji3]; rfl) | rfl | (simp only [List.length_drop, List.length_take]; rfl)) ?_; (with_reducible refine (moment_length.calls (wrap64 ((wrap64 ((wrap64 (1 + (wrap64 (400 * (wrap64 (Int.tdiv a0 146097)))))) + (wrap64 ((wrap64 (100 * (ji2))) + (wrap64 (4 * (wrap64 (Int.tdiv (wrap64 ((Int.tmod a0 146097) - (wrap64 (36524 * (ji2))))) 1461)))))))) + (ji3))) x6_1 t382 _ A5.out (by first | exact laid_below HL_.out (by repeat (first | (with_reducible first | exact HB.out | apply below_alloc | apply pw_below_drewN | apply below_drew1) | exact HB.out)) | exact laid_drawn HL_.out (by repeat (first | exact Drawn0.refl _ | apply Drawn0.step)))).mono ?_); rintro e w' ⟨rfl, ⟨nd, rfl⟩⟩; refine ⟨_, rfl, ?_⟩) | ((with_reducible refine gate_callee (f := 47) rfl ?_); refine goesL_ (some 48) rfl rfl Tryd.func47 (by kernel_rfl) rfl #[.int .i64 (wrap64 ((wrap64 ((wrap64 (1 + (wrap64 (400 * (wrap64 (Int.tdiv a0 146097)))))) + (wrap64 ((wrap64 (100 * (ji2))) + (wrap64 (4 * (wrap64 (Int.tdiv (wrap64 ((Int.tmod a0 146097) - (wrap64 (36524 * (ji2))))) 1461)))))))) + (ji3))), .int .i64 x6_1] rfl (by (try simp only [List.map_toArray, List.map_cons, List.map_nil]); first | done | (simp only [hji2, hji3]; rfl) | rfl | (simp only [List.length_drop, List.length_take]; rfl)) ?_; (with_reducible refine (moment_length.calls (wrap64 ((wrap64 ((wrap64 (1 + (wrap64 (400 * (wrap64 (Int.tdiv a0 146097)))))) + (wrap64 ((wrap64 (100 * (ji2))) + (wrap64 (4 * (wrap64 (Int.tdiv (wrap64 ((Int.tmod a0 146097) - (wrap64 (36524 * (ji2))))) 1461)))))))) + (ji3))) x6_1 t383 _ A7.out (by first | exact laid_below HL_.out (by repeat (first | (with_reducible first | exact HB.out | apply below_alloc | apply pw_below_drewN | apply below_drew1) | exact HB.out)) | exact laid_drawn HL_.out (by repeat (first | exact Drawn0.refl _ | apply Drawn0.step)))).mono ?_); rintro e w' ⟨rfl, ⟨nd, rfl⟩⟩; refine ⟨_, rfl, ?_⟩))
    go_roundg k1
    case measure => have := HK1.out; omega
    case rel => exact ⟨(wrap64 (x0_1 - t383)), (wrap64 (x6_1 + 1)), (by first | rfl | (simp; done) | (simp [*]; done)), (by first | rfl | (simp; done) | (simp [*]; done)), H', ⟨by have := HK1.out; omega⟩, ⟨by (with_reducible repeat (first | refine blk_drewN ?_ _ | refine blk_drew ?_ | refine blk_alloc ?_ _)); exact BK381.out⟩, ⟨by repeat (first | (with_reducible first | exact HB.out | apply below_alloc | apply pw_below_drewN | apply below_drew1 | refine below_set ?_ GE381.out) | exact HB.out)⟩⟩
   ·rw [if_neg c6] at H
    have c6b0 : decide (t382 ≤ x0_1) = false := decide_eq_false c6
    clear c6
    simp only [Option.some.injEq, Prod.mk.injEq] at H
    obtain ⟨rfl, rfl, rfl, rfl, rfl, rfl, rfl⟩ := H
    go_wp2_with (first | ((with_reducible refine gate_callee (f := 47) rfl ?_); refine goesL_ (some 43) rfl rfl Tryd.func47 (by kernel_rfl) rfl #[.int .i64 (wrap64 ((wrap64 ((wrap64 (1 + (wrap64 (400 * (wrap64 (Int.tdiv a0 146097)))))) + (wrap64 ((wrap64 (100 * (ji2))) + (wrap64 (4 * (wrap64 (Int.tdiv (wrap64 ((Int.tmod a0 146097) - (wrap64 (36524 * (ji2))))) 1461)))))))) + (ji3))), .int .i64 x6_1] rfl (by (try simp only [List.map_toArray, List.map_cons, List.map_nil]); first | done | (simp only [hji2, hji3]; rfl) | rfl | (simp only [List.length_drop, List.length_take]; rfl)) ?_; (with_reducible refine (moment_length.calls (wrap64 ((wrap64 ((wrap64 (1 + (wrap64 (400 * (wrap64 (Int.tdiv a0 146097)))))) + (wrap64 ((wrap64 (100 * (ji2))) + (wrap64 (4 * (wrap64 (Int.tdiv (wrap64 ((Int.tmod a0 146097) - (wrap64 (36524 * (ji2))))) 1461)))))))) + (ji3))) x6_1 t382 _ A5.out (by first | exact laid_below HL_.out (by repeat (first | (with_reducible first | exact HB.out | apply below_alloc | apply pw_below_drewN | apply below_drew1) | exact HB.out)) | exact laid_drawn HL_.out (by repeat (first | exact Drawn0.refl _ | apply Drawn0.step)))).mono ?_); rintro e w' ⟨rfl, ⟨nd, rfl⟩⟩; refine ⟨_, rfl, ?_⟩; (try (rw [drewN_self wr]; generalize hq_ : World.drewN wr _ = wr; have n0_ : Aside0 (wr.heap[gb381]? = some (.cells #[.int .i64 0, .int .i64 0, .int .i64 0, .int .i64 0, .int .i64 0, .int .i64 0, .int .i64 0] 23 (0, 0))) := ⟨by rw [← hq_]; exact (by (with_reducible repeat (first | refine blk_drewN ?_ _ | refine blk_drew ?_ | refine blk_alloc ?_ _)); exact BK381.out)⟩; have n1_ : Aside0 (Below w.heap.size w wr) := ⟨by rw [← hq_]; exact (by repeat (first | (with_reducible first | exact HB.out | apply below_alloc | apply pw_below_drewN | apply below_drew1 | refine below_set ?_ GE381.out) | exact HB.out))⟩; clear BK381 HB hq_; have BK381 := n0_; have HB := n1_; clear n0_ n1_)); have hcz8_0 : wr.cell? ⟨gb381, 0, none⟩ = some (.int .i64 0) := (blk_cell BK381.out 0).trans rfl; have hcz8_1 : wr.cell? ⟨gb381, 1, none⟩ = some (.int .i64 0) := (blk_cell BK381.out 1).trans rfl; have hcz8_2 : wr.cell? ⟨gb381, 2, none⟩ = some (.int .i64 0) := (blk_cell BK381.out 2).trans rfl; have hcz8_3 : wr.cell? ⟨gb381, 3, none⟩ = some (.int .i64 0) := (blk_cell BK381.out 3).trans rfl; have hcz8_4 : wr.cell? ⟨gb381, 4, none⟩ = some (.int .i64 0) := (blk_cell BK381.out 4).trans rfl; have hcz8_5 : wr.cell? ⟨gb381, 5, none⟩ = some (.int .i64 0) := (blk_cell BK381.out 5).trans rfl; have hcz8_6 : wr.cell? ⟨gb381, 6, none⟩ = some (.int .i64 0) := (blk_cell BK381.out 6).trans rfl; have hfz8_0 := blk_frozen BK381.out 0; have hfz8_1 := blk_frozen BK381.out 1; have hfz8_2 := blk_frozen BK381.out 2; have hfz8_3 := blk_frozen BK381.out 3; have hfz8_4 := blk_frozen BK381.out 4; have hfz8_5 := blk_frozen BK381.out 5; have hfz8_6 := blk_frozen BK381.out 6))
    refine bodyPost_ret (results_cell_row rfl _ _ gb381 23 #[.int .i64 (wrap64 ((wrap64 ((wrap64 (1 + (wrap64 (400 * (wrap64 (Int.tdiv a0 146097)))))) + (wrap64 ((wrap64 (100 * (ji2))) + (wrap64 (4 * (wrap64 (Int.tdiv (wrap64 ((Int.tmod a0 146097) - (wrap64 (36524 * (ji2))))) 1461)))))))) + (ji3))), .int .i64 x6_1, .int .i64 (wrap64 (x0_1 + 1)), .int .i64 0, .int .i64 0, .int .i64 0, .int .i64 0] (0, 0) _ rfl (by (with_reducible repeat (first | refine blk_drewN ?_ _ | refine blk_drew ?_ | refine blk_alloc ?_ _)); refine blk_put (cs := #[.int .i64 (wrap64 ((wrap64 ((wrap64 (1 + (wrap64 (400 * (wrap64 (Int.tdiv a0 146097)))))) + (wrap64 ((wrap64 (100 * (ji2))) + (wrap64 (4 * (wrap64 (Int.tdiv (wrap64 ((Int.tmod a0 146097) - (wrap64 (36524 * (ji2))))) 1461)))))))) + (ji3))), .int .i64 x6_1, .int .i64 (wrap64 (x0_1 + 1)), .int .i64 0, .int .i64 0, .int .i64 0, .int .i64 0]) ?_ 6 _ rfl; (with_reducible repeat (first | refine blk_drewN ?_ _ | refine blk_drew ?_ | refine blk_alloc ?_ _)); refine blk_put (cs := #[.int .i64 (wrap64 ((wrap64 ((wrap64 (1 + (wrap64 (400 * (wrap64 (Int.tdiv a0 146097)))))) + (wrap64 ((wrap64 (100 * (ji2))) + (wrap64 (4 * (wrap64 (Int.tdiv (wrap64 ((Int.tmod a0 146097) - (wrap64 (36524 * (ji2))))) 1461)))))))) + (ji3))), .int .i64 x6_1, .int .i64 (wrap64 (x0_1 + 1)), .int .i64 0, .int .i64 0, .int .i64 0, .int .i64 0]) ?_ 5 _ rfl; (with_reducible repeat (first | refine blk_drewN ?_ _ | refine blk_drew ?_ | refine blk_alloc ?_ _)); refine blk_put (cs := #[.int .i64 (wrap64 ((wrap64 ((wrap64 (1 + (wrap64 (400 * (wrap64 (Int.tdiv a0 146097)))))) + (wrap64 ((wrap64 (100 * (ji2))) + (wrap64 (4 * (wrap64 (Int.tdiv (wrap64 ((Int.tmod a0 146097) - (wrap64 (36524 * (ji2))))) 1461)))))))) + (ji3))), .int .i64 x6_1, .int .i64 (wrap64 (x0_1 + 1)), .int .i64 0, .int .i64 0, .int .i64 0, .int .i64 0]) ?_ 4 _ rfl; (with_reducible repeat (first | refine blk_drewN ?_ _ | refine blk_drew ?_ | refine blk_alloc ?_ _)); refine blk_put (cs := #[.int .i64 (wrap64 ((wrap64 ((wrap64 (1 + (wrap64 (400 * (wrap64 (Int.tdiv a0 146097)))))) + (wrap64 ((wrap64 (100 * (ji2))) + (wrap64 (4 * (wrap64 (Int.tdiv (wrap64 ((Int.tmod a0 146097) - (wrap64 (36524 * (ji2))))) 1461)))))))) + (ji3))), .int .i64 x6_1, .int .i64 (wrap64 (x0_1 + 1)), .int .i64 0, .int .i64 0, .int .i64 0, .int .i64 0]) ?_ 3 _ rfl; (with_reducible repeat (first | refine blk_drewN ?_ _ | refine blk_drew ?_ | refine blk_alloc ?_ _)); refine blk_put (cs := #[.int .i64 (wrap64 ((wrap64 ((wrap64 (1 + (wrap64 (400 * (wrap64 (Int.tdiv a0 146097)))))) + (wrap64 ((wrap64 (100 * (ji2))) + (wrap64 (4 * (wrap64 (Int.tdiv (wrap64 ((Int.tmod a0 146097) - (wrap64 (36524 * (ji2))))) 1461)))))))) + (ji3))), .int .i64 x6_1, .int .i64 0, .int .i64 0, .int .i64 0, .int .i64 0, .int .i64 0]) ?_ 2 _ rfl; (with_reducible repeat (first | refine blk_drewN ?_ _ | refine blk_drew ?_ | refine blk_alloc ?_ _)); refine blk_put (cs := #[.int .i64 (wrap64 ((wrap64 ((wrap64 (1 + (wrap64 (400 * (wrap64 (Int.tdiv a0 146097)))))) + (wrap64 ((wrap64 (100 * (ji2))) + (wrap64 (4 * (wrap64 (Int.tdiv (wrap64 ((Int.tmod a0 146097) - (wrap64 (36524 * (ji2))))) 1461)))))))) + (ji3))), .int .i64 0, .int .i64 0, .int .i64 0, .int .i64 0, .int .i64 0, .int .i64 0]) ?_ 1 _ rfl; (with_reducible repeat (first | refine blk_drewN ?_ _ | refine blk_drew ?_ | refine blk_alloc ?_ _)); refine blk_put (cs := #[.int .i64 0, .int .i64 0, .int .i64 0, .int .i64 0, .int .i64 0, .int .i64 0, .int .i64 0]) ?_ 0 _ rfl; (with_reducible repeat (first | refine blk_drewN ?_ _ | refine blk_drew ?_ | refine blk_alloc ?_ _)); exact BK381.out) Tryd.underlying23 rfl (by kernel_rfl)) rfl ?_
    exact ⟨by first | rfl | (simp [errW_none, errW_some] <;> rfl) | (simp only [← hji2, ← hji3]; first | rfl | (simp [errW_none, errW_some] <;> rfl)) | (simp [*, errW_none, errW_some] <;> rfl), by repeat (first | (with_reducible first | exact HB.out | apply below_alloc | apply pw_below_drewN | apply below_drew1 | refine below_set ?_ GE381.out) | exact HB.out)⟩
attribute [local irreducible] moment_civil.f moment_civil.l0 moment_floor.f
mutual
def moment_At.j0 : Nat → Int → Int → Bool → Option (Int × Int × Int × Int × Int × Int × Int × Int)
 | 0, _, _, _ => none
 | k + 1, x0, x1, x14 => if x14 = true then (some (0, 0, 0, 0, 0, 0, 0, 1)) else (if x0 < (-345600000000) then (moment_At.j1 k x0 x1 true) else (moment_At.j1 k x0 x1 (decide (x0 > 345600000000))))
def moment_At.j1 : Nat → Int → Int → Bool → Option (Int × Int × Int × Int × Int × Int × Int × Int)
 | 0, _, _, _ => none
 | k + 1, x0, x1, x21 => if x21 = true then (some (0, 0, 0, 0, 0, 0, 0, 22)) else ((moment_floor.f (wrap64 (x0 + (wrap64 (60 * x1)))) 86400).bind fun bt385 => (if bt385.1 < (-719162) then (some (0, 0, 0, 0, 0, 0, 0, 22)) else (if bt385.1 > 2932896 then (some (0, 0, 0, 0, 0, 0, 0, 22)) else ((moment_civil.f k (wrap64 (bt385.1 + 719162))).bind fun bt387 => (some (bt387.1, bt387.2.1, bt387.2.2.1, wrap64 (Int.tdiv bt385.2 3600), Int.tmod (wrap64 (Int.tdiv bt385.2 60)) 60, Int.tmod bt385.2 60, x1, 0))))))
end
def moment_At.f (k : Nat) (a0 : Int) (a1 : Int) : Option (Int × Int × Int × Int × Int × Int × Int × Int) := if a1 < (-1439) then (moment_At.j0 k a0 a1 true) else (moment_At.j0 k a0 a1 (decide (a1 > 1439)))
set_option maxHeartbeats 8000000 in
set_option maxRecDepth 100000 in
theorem moment_At.calls (k : Nat) (a0 : Int) (a1 : Int) (r1 : Int) (r2 : Int) (r3 : Int) (r4 : Int) (r5 : Int) (r6 : Int) (r7 : Int) (r8 : Int) (w : World) (h : moment_At.f k a0 a1 = some (r1, r2, r3, r4, r5, r6, r7, r8)) (hL_ : Laid w) :
  Calls Tryd.prog 36 #[.int .i64 a0, .int .i64 a1] w fun e w' => e = .returned (.tuple #[.agg #[.int .i64 r1, .int .i64 r2, .int .i64 r3, .int .i64 r4, .int .i64 r5, .int .i64 r6, .int .i64 r7], .int .i64 r8]) ∧ Below w.heap.size w w' := by
 have HL_ := Aside0.mk hL_
 clear hL_
 have hu23 := Tryd.underlying23
 have HB := Aside0.mk (Below.refl w.heap.size w)
 have H : (if a1 < (-1439) then (moment_At.j0 k a0 a1 true) else (moment_At.j0 k a0 a1 (decide (a1 > 1439)))) = some (r1, r2, r3, r4, r5, r6, r7, r8) := h
 clear h
 have HC3 := Aside0.mk H
 clear H
 go_enter Tryd.func36, Tryd.ntmps36
 go_upto_region 1 with (first | ((with_reducible refine gate_dst (N := 4) rfl ?_); refine box_event ?hg (N := 4) ?hd (cs := #[.int .i64 0, .int .i64 0, .int .i64 0, .int .i64 0, .int .i64 0, .int .i64 0, .int .i64 0]) (t := 23) ?hr ?_; (case hd => rfl); (case hg => rfl); (case hr => first | (go_simp; done) | (go_simp; rfl)); intro gb384 hg w4 hbox hb; have n0_ := Aside0.mk (below_step (by repeat (first | (with_reducible first | exact HB.out | apply below_alloc | apply pw_below_drewN | apply below_drew1) | exact HB.out)) hb); have n1_ := Aside0.mk (hbox); have n2_ := Aside0.mk ((by rw [hg]; exact (below_size (by repeat (first | (with_reducible first | exact HB.out | apply below_alloc | apply pw_below_drewN | apply below_drew1) | exact HB.out))) : w.heap.size ≤ gb384)); have n3_ := Aside0.mk ((by rw [hg]; exact (below_size (by repeat (first | (with_reducible first | exact HB.out | apply below_alloc | apply pw_below_drewN | apply below_drew1) | exact HB.out))) : w.heap.size ≤ gb384)); clear HB; have HB := n0_; have BK384 := n1_; have GW384 := n2_; have GE384 := n3_; clear n0_ n1_ n2_ n3_; clear hb hbox hg))
 (try simp only [Act.put, s1_, s2_, s3_])
 go_cut [14] (fun v14 wc => ∃ (kq : Nat) (x14_2 : Bool), v14 = .bool x14_2 ∧ Aside0 (moment_At.j0 kq a0 a1 x14_2 = some (r1, r2, r3, r4, r5, r6, r7, r8)) ∧ Aside0 (kq ≤ k) ∧ Aside0 (wc.heap[gb384]? = some (.cells #[.int .i64 0, .int .i64 0, .int .i64 0, .int .i64 0, .int .i64 0, .int .i64 0, .int .i64 0] 23 (0, 0))) ∧ Aside0 (Below w.heap.size w wc))
 case first =>
  have H := HC3.out
  clear HC3
  by_cases c5 : a1 < (-1439)
  ·rw [if_pos c5] at H
   have c5b0 : decide (a1 < (-1439)) = true := decide_eq_true c5
   clear c5
   (first | rw [c5b0] | (simp only [i64_w, i32_w]; rw [c5b0]) | skip)
   have H' := Aside0.mk H
   clear H
   go_wp2
   go_meet
   case rel => exact ⟨_, (true), (by first | rfl | (simp; done) | (simp [*]; done)), H', ⟨by first | omega | exact Nat.le_refl _⟩, ⟨by (with_reducible repeat (first | refine blk_drewN ?_ _ | refine blk_drew ?_ | refine blk_alloc ?_ _)); exact BK384.out⟩, ⟨by repeat (first | (with_reducible first | exact HB.out | apply below_alloc | apply pw_below_drewN | apply below_drew1 | refine below_set ?_ GE384.out) | exact HB.out)⟩⟩
  ·rw [if_neg c5] at H
   have c5b0 : decide (a1 < (-1439)) = false := decide_eq_false c5
   clear c5
   (first | rw [c5b0] | (simp only [i64_w, i32_w]; rw [c5b0]) | skip)
   have H' := Aside0.mk H
   clear H
   go_wp2
   go_meet
   case rel => exact ⟨_, (decide (a1 > 1439)), (by first | rfl | (simp; done) | (simp [*]; done)), H', ⟨by first | omega | exact Nat.le_refl _⟩, ⟨by (with_reducible repeat (first | refine blk_drewN ?_ _ | refine blk_drew ?_ | refine blk_alloc ?_ _)); exact BK384.out⟩, ⟨by repeat (first | (with_reducible first | exact HB.out | apply below_alloc | apply pw_below_drewN | apply below_drew1 | refine below_set ?_ GE384.out) | exact HB.out)⟩⟩
 case rest =>
  clear HC3
  try clear p2
  try clear c3
  try clear c5
  try clear c5b0
  obtain ⟨kq, x14_2, rfl, HA, HJ2, BK384, HB⟩ := hcut
  cases kq with
  | zero => exact absurd HA.out (by simp [moment_At.j0])
  | succ kj2 =>
   have H := HA.out
   clear HA
   simp only [moment_At.j0] at H
   by_cases c6 : x14_2 = true
   ·subst c6
    have H1 : (some (0, 0, 0, 0, 0, 0, 0, 1)) = some (r1, r2, r3, r4, r5, r6, r7, r8) := by rw [if_pos rfl] at H; exact H
    clear H
    have H := H1
    clear H1
    simp only [Option.some.injEq, Prod.mk.injEq] at H
    obtain ⟨rfl, rfl, rfl, rfl, rfl, rfl, rfl, rfl⟩ := H
    have hcz7_0 : wc.cell? ⟨gb384, 0, none⟩ = some (.int .i64 0) := (blk_cell BK384.out 0).trans rfl
    have hcz7_1 : wc.cell? ⟨gb384, 1, none⟩ = some (.int .i64 0) := (blk_cell BK384.out 1).trans rfl
    have hcz7_2 : wc.cell? ⟨gb384, 2, none⟩ = some (.int .i64 0) := (blk_cell BK384.out 2).trans rfl
    have hcz7_3 : wc.cell? ⟨gb384, 3, none⟩ = some (.int .i64 0) := (blk_cell BK384.out 3).trans rfl
    have hcz7_4 : wc.cell? ⟨gb384, 4, none⟩ = some (.int .i64 0) := (blk_cell BK384.out 4).trans rfl
    have hcz7_5 : wc.cell? ⟨gb384, 5, none⟩ = some (.int .i64 0) := (blk_cell BK384.out 5).trans rfl
    have hcz7_6 : wc.cell? ⟨gb384, 6, none⟩ = some (.int .i64 0) := (blk_cell BK384.out 6).trans rfl
    have hfz7_0 := blk_frozen BK384.out 0
    have hfz7_1 := blk_frozen BK384.out 1
    have hfz7_2 := blk_frozen BK384.out 2
    have hfz7_3 := blk_frozen BK384.out 3
    have hfz7_4 := blk_frozen BK384.out 4
    have hfz7_5 := blk_frozen BK384.out 5
    have hfz7_6 := blk_frozen BK384.out 6
    go_wp2
    refine bodyPost_ret (results_ct rfl _ _ gb384 23 #[.int .i64 0, .int .i64 0, .int .i64 0, .int .i64 0, .int .i64 0, .int .i64 0, .int .i64 0] (0, 0) _ rfl (by (with_reducible repeat (first | refine blk_drewN ?_ _ | refine blk_drew ?_ | refine blk_alloc ?_ _)); refine blk_put (cs := #[.int .i64 0, .int .i64 0, .int .i64 0, .int .i64 0, .int .i64 0, .int .i64 0, .int .i64 0]) ?_ 6 _ rfl; (with_reducible repeat (first | refine blk_drewN ?_ _ | refine blk_drew ?_ | refine blk_alloc ?_ _)); refine blk_put (cs := #[.int .i64 0, .int .i64 0, .int .i64 0, .int .i64 0, .int .i64 0, .int .i64 0, .int .i64 0]) ?_ 5 _ rfl; (with_reducible repeat (first | refine blk_drewN ?_ _ | refine blk_drew ?_ | refine blk_alloc ?_ _)); refine blk_put (cs := #[.int .i64 0, .int .i64 0, .int .i64 0, .int .i64 0, .int .i64 0, .int .i64 0, .int .i64 0]) ?_ 4 _ rfl; (with_reducible repeat (first | refine blk_drewN ?_ _ | refine blk_drew ?_ | refine blk_alloc ?_ _)); refine blk_put (cs := #[.int .i64 0, .int .i64 0, .int .i64 0, .int .i64 0, .int .i64 0, .int .i64 0, .int .i64 0]) ?_ 3 _ rfl; (with_reducible repeat (first | refine blk_drewN ?_ _ | refine blk_drew ?_ | refine blk_alloc ?_ _)); refine blk_put (cs := #[.int .i64 0, .int .i64 0, .int .i64 0, .int .i64 0, .int .i64 0, .int .i64 0, .int .i64 0]) ?_ 2 _ rfl; (with_reducible repeat (first | refine blk_drewN ?_ _ | refine blk_drew ?_ | refine blk_alloc ?_ _)); refine blk_put (cs := #[.int .i64 0, .int .i64 0, .int .i64 0, .int .i64 0, .int .i64 0, .int .i64 0, .int .i64 0]) ?_ 1 _ rfl; (with_reducible repeat (first | refine blk_drewN ?_ _ | refine blk_drew ?_ | refine blk_alloc ?_ _)); refine blk_put (cs := #[.int .i64 0, .int .i64 0, .int .i64 0, .int .i64 0, .int .i64 0, .int .i64 0, .int .i64 0]) ?_ 0 _ rfl; (with_reducible repeat (first | refine blk_drewN ?_ _ | refine blk_drew ?_ | refine blk_alloc ?_ _)); exact BK384.out) Tryd.underlying23 rfl (by kernel_rfl)) rfl ?_
    exact ⟨by first | rfl | (simp [errW_none, errW_some] <;> rfl) | (simp [*, errW_none, errW_some] <;> rfl), by repeat (first | (with_reducible first | exact HB.out | apply below_alloc | apply pw_below_drewN | apply below_drew1 | refine below_set ?_ GE384.out) | exact HB.out)⟩
   ·replace c6 := Bool.eq_false_iff.mpr c6
    subst c6
    have H1 : (if a0 < (-345600000000) then (moment_At.j1 kj2 a0 a1 true) else (moment_At.j1 kj2 a0 a1 (decide (a0 > 345600000000)))) = some (r1, r2, r3, r4, r5, r6, r7, r8) := by rw [if_neg (show ¬ (false = true) by decide)] at H; exact H
    clear H
    have H := H1
    clear H1
    have HC8 := Aside0.mk H
    clear H
    go_upto_region 3 with (fail)
    go_cut [21] (fun v21 wc => ∃ (kq : Nat) (x21_7 : Bool), v21 = .bool x21_7 ∧ Aside0 (moment_At.j1 kq a0 a1 x21_7 = some (r1, r2, r3, r4, r5, r6, r7, r8)) ∧ Aside0 (kq ≤ kj2) ∧ Aside0 (wc.heap[gb384]? = some (.cells #[.int .i64 0, .int .i64 0, .int .i64 0, .int .i64 0, .int .i64 0, .int .i64 0, .int .i64 0] 23 (0, 0))) ∧ Aside0 (Below w.heap.size w wc))
    case first =>
     have H := HC8.out
     clear HC8
     by_cases c9 : a0 < (-345600000000)
     ·rw [if_pos c9] at H
      have c9b0 : decide (a0 < (-345600000000)) = true := decide_eq_true c9
      clear c9
      (first | rw [c9b0] | (simp only [i64_w, i32_w]; rw [c9b0]) | skip)
      have H' := Aside0.mk H
      clear H
      go_wp2
      go_meet
      case rel => exact ⟨_, (true), (by first | rfl | (simp; done) | (simp [*]; done)), H', ⟨by have := HJ2.out; first | omega | exact Nat.le_refl _⟩, ⟨by (with_reducible repeat (first | refine blk_drewN ?_ _ | refine blk_drew ?_ | refine blk_alloc ?_ _)); exact BK384.out⟩, ⟨by repeat (first | (with_reducible first | exact HB.out | apply below_alloc | apply pw_below_drewN | apply below_drew1 | refine below_set ?_ GE384.out) | exact HB.out)⟩⟩
     ·rw [if_neg c9] at H
      have c9b0 : decide (a0 < (-345600000000)) = false := decide_eq_false c9
      clear c9
      (first | rw [c9b0] | (simp only [i64_w, i32_w]; rw [c9b0]) | skip)
      have H' := Aside0.mk H
      clear H
      go_wp2
      go_meet
      case rel => exact ⟨_, (decide (a0 > 345600000000)), (by first | rfl | (simp; done) | (simp [*]; done)), H', ⟨by have := HJ2.out; first | omega | exact Nat.le_refl _⟩, ⟨by (with_reducible repeat (first | refine blk_drewN ?_ _ | refine blk_drew ?_ | refine blk_alloc ?_ _)); exact BK384.out⟩, ⟨by repeat (first | (with_reducible first | exact HB.out | apply below_alloc | apply pw_below_drewN | apply below_drew1 | refine below_set ?_ GE384.out) | exact HB.out)⟩⟩
    case rest =>
     clear HC8
     try clear p2
     try clear c3
     try clear c5
     try clear c5b0
     try clear c6
     try clear c9
     try clear c9b0
     try clear hcz7_0
     try clear hcz7_1
     try clear hcz7_2
     try clear hcz7_3
     try clear hcz7_4
     try clear hcz7_5
     try clear hcz7_6
     try clear hfz7_0
     try clear hfz7_1
     try clear hfz7_2
     try clear hfz7_3
     try clear hfz7_4
     try clear hfz7_5
     try clear hfz7_6
     try clear p2
     obtain ⟨kq, x21_7, rfl, HA, HJ7, BK384, HB⟩ := hcut
     cases kq with
     | zero => exact absurd HA.out (by simp [moment_At.j1])
     | succ kj7 =>
      have H := HA.out
      clear HA
      simp only [moment_At.j1] at H
      by_cases c10 : x21_7 = true
      ·subst c10
       have H1 : (some (0, 0, 0, 0, 0, 0, 0, 22)) = some (r1, r2, r3, r4, r5, r6, r7, r8) := by rw [if_pos rfl] at H; exact H
       clear H
       have H := H1
       clear H1
       simp only [Option.some.injEq, Prod.mk.injEq] at H
       obtain ⟨rfl, rfl, rfl, rfl, rfl, rfl, rfl, rfl⟩ := H
       have hcz11_0 : wc.cell? ⟨gb384, 0, none⟩ = some (.int .i64 0) := (blk_cell BK384.out 0).trans rfl
       have hcz11_1 : wc.cell? ⟨gb384, 1, none⟩ = some (.int .i64 0) := (blk_cell BK384.out 1).trans rfl
       have hcz11_2 : wc.cell? ⟨gb384, 2, none⟩ = some (.int .i64 0) := (blk_cell BK384.out 2).trans rfl
       have hcz11_3 : wc.cell? ⟨gb384, 3, none⟩ = some (.int .i64 0) := (blk_cell BK384.out 3).trans rfl
       have hcz11_4 : wc.cell? ⟨gb384, 4, none⟩ = some (.int .i64 0) := (blk_cell BK384.out 4).trans rfl
       have hcz11_5 : wc.cell? ⟨gb384, 5, none⟩ = some (.int .i64 0) := (blk_cell BK384.out 5).trans rfl
       have hcz11_6 : wc.cell? ⟨gb384, 6, none⟩ = some (.int .i64 0) := (blk_cell BK384.out 6).trans rfl
       have hfz11_0 := blk_frozen BK384.out 0
       have hfz11_1 := blk_frozen BK384.out 1
       have hfz11_2 := blk_frozen BK384.out 2
       have hfz11_3 := blk_frozen BK384.out 3
       have hfz11_4 := blk_frozen BK384.out 4
       have hfz11_5 := blk_frozen BK384.out 5
       have hfz11_6 := blk_frozen BK384.out 6
       go_wp2
       refine bodyPost_ret (results_ct rfl _ _ gb384 23 #[.int .i64 0, .int .i64 0, .int .i64 0, .int .i64 0, .int .i64 0, .int .i64 0, .int .i64 0] (0, 0) _ rfl (by (with_reducible repeat (first | refine blk_drewN ?_ _ | refine blk_drew ?_ | refine blk_alloc ?_ _)); refine blk_put (cs := #[.int .i64 0, .int .i64 0, .int .i64 0, .int .i64 0, .int .i64 0, .int .i64 0, .int .i64 0]) ?_ 6 _ rfl; (with_reducible repeat (first | refine blk_drewN ?_ _ | refine blk_drew ?_ | refine blk_alloc ?_ _)); refine blk_put (cs := #[.int .i64 0, .int .i64 0, .int .i64 0, .int .i64 0, .int .i64 0, .int .i64 0, .int .i64 0]) ?_ 5 _ rfl; (with_reducible repeat (first | refine blk_drewN ?_ _ | refine blk_drew ?_ | refine blk_alloc ?_ _)); refine blk_put (cs := #[.int .i64 0, .int .i64 0, .int .i64 0, .int .i64 0, .int .i64 0, .int .i64 0, .int .i64 0]) ?_ 4 _ rfl; (with_reducible repeat (first | refine blk_drewN ?_ _ | refine blk_drew ?_ | refine blk_alloc ?_ _)); refine blk_put (cs := #[.int .i64 0, .int .i64 0, .int .i64 0, .int .i64 0, .int .i64 0, .int .i64 0, .int .i64 0]) ?_ 3 _ rfl; (with_reducible repeat (first | refine blk_drewN ?_ _ | refine blk_drew ?_ | refine blk_alloc ?_ _)); refine blk_put (cs := #[.int .i64 0, .int .i64 0, .int .i64 0, .int .i64 0, .int .i64 0, .int .i64 0, .int .i64 0]) ?_ 2 _ rfl; (with_reducible repeat (first | refine blk_drewN ?_ _ | refine blk_drew ?_ | refine blk_alloc ?_ _)); refine blk_put (cs := #[.int .i64 0, .int .i64 0, .int .i64 0, .int .i64 0, .int .i64 0, .int .i64 0, .int .i64 0]) ?_ 1 _ rfl; (with_reducible repeat (first | refine blk_drewN ?_ _ | refine blk_drew ?_ | refine blk_alloc ?_ _)); refine blk_put (cs := #[.int .i64 0, .int .i64 0, .int .i64 0, .int .i64 0, .int .i64 0, .int .i64 0, .int .i64 0]) ?_ 0 _ rfl; (with_reducible repeat (first | refine blk_drewN ?_ _ | refine blk_drew ?_ | refine blk_alloc ?_ _)); exact BK384.out) Tryd.underlying23 rfl (by kernel_rfl)) rfl ?_
       exact ⟨by first | rfl | (simp [errW_none, errW_some] <;> rfl) | (simp [*, errW_none, errW_some] <;> rfl), by repeat (first | (with_reducible first | exact HB.out | apply below_alloc | apply pw_below_drewN | apply below_drew1 | refine below_set ?_ GE384.out) | exact HB.out)⟩
      ·replace c10 := Bool.eq_false_iff.mpr c10
       subst c10
       have H1 : ((moment_floor.f (wrap64 (a0 + (wrap64 (60 * a1)))) 86400).bind fun bt385 => (if bt385.1 < (-719162) then (some (0, 0, 0, 0, 0, 0, 0, 22)) else (if bt385.1 > 2932896 then (some (0, 0, 0, 0, 0, 0, 0, 22)) else ((moment_civil.f kj7 (wrap64 (bt385.1 + 719162))).bind fun bt387 => (some (bt387.1, bt387.2.1, bt387.2.2.1, wrap64 (Int.tdiv bt385.2 3600), Int.tmod (wrap64 (Int.tdiv bt385.2 60)) 60, Int.tmod bt385.2 60, a1, 0)))))) = some (r1, r2, r3, r4, r5, r6, r7, r8) := by rw [if_neg (show ¬ (false = true) by decide)] at H; exact H
       clear H
       have H := H1
       clear H1
       replace H := Option.bind_eq_some_iff.mp H
       obtain ⟨⟨t385, t386⟩, A120, H⟩ := H
       replace H : (if t385 < (-719162) then (some (0, 0, 0, 0, 0, 0, 0, 22)) else (if t385 > 2932896 then (some (0, 0, 0, 0, 0, 0, 0, 22)) else ((moment_civil.f kj7 (wrap64 (t385 + 719162))).bind fun bt387 => (some (bt387.1, bt387.2.1, bt387.2.2.1, wrap64 (Int.tdiv t386 3600), Int.tmod (wrap64 (Int.tdiv t386 60)) 60, Int.tmod t386 60, a1, 0))))) = some (r1, r2, r3, r4, r5, r6, r7, r8) := H
       have A12 := Aside0.mk A120
       clear A120
       by_cases c13 : t385 < (-719162)
       ·rw [if_pos c13] at H
        have c13b0 : decide (t385 < (-719162)) = true := decide_eq_true c13
        clear c13
        simp only [Option.some.injEq, Prod.mk.injEq] at H
        obtain ⟨rfl, rfl, rfl, rfl, rfl, rfl, rfl, rfl⟩ := H
        go_wp2_with (first | ((with_reducible refine gate_callee (f := 48) rfl ?_); refine goesL_ (some 28) rfl rfl Tryd.func48 (by kernel_rfl) rfl #[.int .i64 (wrap64 (a0 + (wrap64 (60 * a1)))), .int .i64 86400] rfl (by (try simp only [List.map_toArray, List.map_cons, List.map_nil]); first | done | rfl | (simp only [List.length_drop, List.length_take]; rfl)) ?_; (with_reducible refine (moment_floor.calls (wrap64 (a0 + (wrap64 (60 * a1)))) 86400 t385 t386 _ A12.out).mono ?_); rintro e w' ⟨rfl, ⟨nd, rfl⟩⟩; refine ⟨_, rfl, ?_⟩; (try (rw [drewN_self wc]; generalize hq_ : World.drewN wc _ = wc; have n0_ : Aside0 (wc.heap[gb384]? = some (.cells #[.int .i64 0, .int .i64 0, .int .i64 0, .int .i64 0, .int .i64 0, .int .i64 0, .int .i64 0] 23 (0, 0))) := ⟨by rw [← hq_]; exact (by (with_reducible repeat (first | refine blk_drewN ?_ _ | refine blk_drew ?_ | refine blk_alloc ?_ _)); exact BK384.out)⟩; have n1_ : Aside0 (Below w.heap.size w wc) := ⟨by rw [← hq_]; exact (by repeat (first | (with_reducible first | exact HB.out | apply below_alloc | apply pw_below_drewN | apply below_drew1 | refine below_set ?_ GE384.out) | exact HB.out))⟩; clear BK384 HB hq_; have BK384 := n0_; have HB := n1_; clear n0_ n1_)); have hcz14_0 : wc.cell? ⟨gb384, 0, none⟩ = some (.int .i64 0) := (blk_cell BK384.out 0).trans rfl; have hcz14_1 : wc.cell? ⟨gb384, 1, none⟩ = some (.int .i64 0) := (blk_cell BK384.out 1).trans rfl; have hcz14_2 : wc.cell? ⟨gb384, 2, none⟩ = some (.int .i64 0) := (blk_cell BK384.out 2).trans rfl; have hcz14_3 : wc.cell? ⟨gb384, 3, none⟩ = some (.int .i64 0) := (blk_cell BK384.out 3).trans rfl; have hcz14_4 : wc.cell? ⟨gb384, 4, none⟩ = some (.int .i64 0) := (blk_cell BK384.out 4).trans rfl; have hcz14_5 : wc.cell? ⟨gb384, 5, none⟩ = some (.int .i64 0) := (blk_cell BK384.out 5).trans rfl; have hcz14_6 : wc.cell? ⟨gb384, 6, none⟩ = some (.int .i64 0) := (blk_cell BK384.out 6).trans rfl; have hfz14_0 := blk_frozen BK384.out 0; have hfz14_1 := blk_frozen BK384.out 1; have hfz14_2 := blk_frozen BK384.out 2; have hfz14_3 := blk_frozen BK384.out 3; have hfz14_4 := blk_frozen BK384.out 4; have hfz14_5 := blk_frozen BK384.out 5; have hfz14_6 := blk_frozen BK384.out 6))
        refine bodyPost_ret (results_ct rfl _ _ gb384 23 #[.int .i64 0, .int .i64 0, .int .i64 0, .int .i64 0, .int .i64 0, .int .i64 0, .int .i64 0] (0, 0) _ rfl (by (with_reducible repeat (first | refine blk_drewN ?_ _ | refine blk_drew ?_ | refine blk_alloc ?_ _)); refine blk_put (cs := #[.int .i64 0, .int .i64 0, .int .i64 0, .int .i64 0, .int .i64 0, .int .i64 0, .int .i64 0]) ?_ 6 _ rfl; (with_reducible repeat (first | refine blk_drewN ?_ _ | refine blk_drew ?_ | refine blk_alloc ?_ _)); refine blk_put (cs := #[.int .i64 0, .int .i64 0, .int .i64 0, .int .i64 0, .int .i64 0, .int .i64 0, .int .i64 0]) ?_ 5 _ rfl; (with_reducible repeat (first | refine blk_drewN ?_ _ | refine blk_drew ?_ | refine blk_alloc ?_ _)); refine blk_put (cs := #[.int .i64 0, .int .i64 0, .int .i64 0, .int .i64 0, .int .i64 0, .int .i64 0, .int .i64 0]) ?_ 4 _ rfl; (with_reducible repeat (first | refine blk_drewN ?_ _ | refine blk_drew ?_ | refine blk_alloc ?_ _)); refine blk_put (cs := #[.int .i64 0, .int .i64 0, .int .i64 0, .int .i64 0, .int .i64 0, .int .i64 0, .int .i64 0]) ?_ 3 _ rfl; (with_reducible repeat (first | refine blk_drewN ?_ _ | refine blk_drew ?_ | refine blk_alloc ?_ _)); refine blk_put (cs := #[.int .i64 0, .int .i64 0, .int .i64 0, .int .i64 0, .int .i64 0, .int .i64 0, .int .i64 0]) ?_ 2 _ rfl; (with_reducible repeat (first | refine blk_drewN ?_ _ | refine blk_drew ?_ | refine blk_alloc ?_ _)); refine blk_put (cs := #[.int .i64 0, .int .i64 0, .int .i64 0, .int .i64 0, .int .i64 0, .int .i64 0, .int .i64 0]) ?_ 1 _ rfl; (with_reducible repeat (first | refine blk_drewN ?_ _ | refine blk_drew ?_ | refine blk_alloc ?_ _)); refine blk_put (cs := #[.int .i64 0, .int .i64 0, .int .i64 0, .int .i64 0, .int .i64 0, .int .i64 0, .int .i64 0]) ?_ 0 _ rfl; (with_reducible repeat (first | refine blk_drewN ?_ _ | refine blk_drew ?_ | refine blk_alloc ?_ _)); exact BK384.out) Tryd.underlying23 rfl (by kernel_rfl)) rfl ?_
        exact ⟨by first | rfl | (simp [errW_none, errW_some] <;> rfl) | (simp [*, errW_none, errW_some] <;> rfl), by repeat (first | (with_reducible first | exact HB.out | apply below_alloc | apply pw_below_drewN | apply below_drew1 | refine below_set ?_ GE384.out) | exact HB.out)⟩
       ·rw [if_neg c13] at H
        have c13b0 : decide (t385 < (-719162)) = false := decide_eq_false c13
        clear c13
        by_cases c15 : t385 > 2932896
        ·rw [if_pos c15] at H
         have c15b0 : decide (2932896 < t385) = true := decide_eq_true c15
         clear c15
         simp only [Option.some.injEq, Prod.mk.injEq] at H
         obtain ⟨rfl, rfl, rfl, rfl, rfl, rfl, rfl, rfl⟩ := H
         go_wp2_with (first | ((with_reducible refine gate_callee (f := 48) rfl ?_); refine goesL_ (some 28) rfl rfl Tryd.func48 (by kernel_rfl) rfl #[.int .i64 (wrap64 (a0 + (wrap64 (60 * a1)))), .int .i64 86400] rfl (by (try simp only [List.map_toArray, List.map_cons, List.map_nil]); first | done | rfl | (simp only [List.length_drop, List.length_take]; rfl)) ?_; (with_reducible refine (moment_floor.calls (wrap64 (a0 + (wrap64 (60 * a1)))) 86400 t385 t386 _ A12.out).mono ?_); rintro e w' ⟨rfl, ⟨nd, rfl⟩⟩; refine ⟨_, rfl, ?_⟩; (try (rw [drewN_self wc]; generalize hq_ : World.drewN wc _ = wc; have n0_ : Aside0 (wc.heap[gb384]? = some (.cells #[.int .i64 0, .int .i64 0, .int .i64 0, .int .i64 0, .int .i64 0, .int .i64 0, .int .i64 0] 23 (0, 0))) := ⟨by rw [← hq_]; exact (by (with_reducible repeat (first | refine blk_drewN ?_ _ | refine blk_drew ?_ | refine blk_alloc ?_ _)); exact BK384.out)⟩; have n1_ : Aside0 (Below w.heap.size w wc) := ⟨by rw [← hq_]; exact (by repeat (first | (with_reducible first | exact HB.out | apply below_alloc | apply pw_below_drewN | apply below_drew1 | refine below_set ?_ GE384.out) | exact HB.out))⟩; clear BK384 HB hq_; have BK384 := n0_; have HB := n1_; clear n0_ n1_)); have hcz16_0 : wc.cell? ⟨gb384, 0, none⟩ = some (.int .i64 0) := (blk_cell BK384.out 0).trans rfl; have hcz16_1 : wc.cell? ⟨gb384, 1, none⟩ = some (.int .i64 0) := (blk_cell BK384.out 1).trans rfl; have hcz16_2 : wc.cell? ⟨gb384, 2, none⟩ = some (.int .i64 0) := (blk_cell BK384.out 2).trans rfl; have hcz16_3 : wc.cell? ⟨gb384, 3, none⟩ = some (.int .i64 0) := (blk_cell BK384.out 3).trans rfl; have hcz16_4 : wc.cell? ⟨gb384, 4, none⟩ = some (.int .i64 0) := (blk_cell BK384.out 4).trans rfl; have hcz16_5 : wc.cell? ⟨gb384, 5, none⟩ = some (.int .i64 0) := (blk_cell BK384.out 5).trans rfl; have hcz16_6 : wc.cell? ⟨gb384, 6, none⟩ = some (.int .i64 0) := (blk_cell BK384.out 6).trans rfl; have hfz16_0 := blk_frozen BK384.out 0; have hfz16_1 := blk_frozen BK384.out 1; have hfz16_2 := blk_frozen BK384.out 2; have hfz16_3 := blk_frozen BK384.out 3; have hfz16_4 := blk_frozen BK384.out 4; have hfz16_5 := blk_frozen BK384.out 5; have hfz16_6 := blk_frozen BK384.out 6))
         refine bodyPost_ret (results_ct rfl _ _ gb384 23 #[.int .i64 0, .int .i64 0, .int .i64 0, .int .i64 0, .int .i64 0, .int .i64 0, .int .i64 0] (0, 0) _ rfl (by (with_reducible repeat (first | refine blk_drewN ?_ _ | refine blk_drew ?_ | refine blk_alloc ?_ _)); refine blk_put (cs := #[.int .i64 0, .int .i64 0, .int .i64 0, .int .i64 0, .int .i64 0, .int .i64 0, .int .i64 0]) ?_ 6 _ rfl; (with_reducible repeat (first | refine blk_drewN ?_ _ | refine blk_drew ?_ | refine blk_alloc ?_ _)); refine blk_put (cs := #[.int .i64 0, .int .i64 0, .int .i64 0, .int .i64 0, .int .i64 0, .int .i64 0, .int .i64 0]) ?_ 5 _ rfl; (with_reducible repeat (first | refine blk_drewN ?_ _ | refine blk_drew ?_ | refine blk_alloc ?_ _)); refine blk_put (cs := #[.int .i64 0, .int .i64 0, .int .i64 0, .int .i64 0, .int .i64 0, .int .i64 0, .int .i64 0]) ?_ 4 _ rfl; (with_reducible repeat (first | refine blk_drewN ?_ _ | refine blk_drew ?_ | refine blk_alloc ?_ _)); refine blk_put (cs := #[.int .i64 0, .int .i64 0, .int .i64 0, .int .i64 0, .int .i64 0, .int .i64 0, .int .i64 0]) ?_ 3 _ rfl; (with_reducible repeat (first | refine blk_drewN ?_ _ | refine blk_drew ?_ | refine blk_alloc ?_ _)); refine blk_put (cs := #[.int .i64 0, .int .i64 0, .int .i64 0, .int .i64 0, .int .i64 0, .int .i64 0, .int .i64 0]) ?_ 2 _ rfl; (with_reducible repeat (first | refine blk_drewN ?_ _ | refine blk_drew ?_ | refine blk_alloc ?_ _)); refine blk_put (cs := #[.int .i64 0, .int .i64 0, .int .i64 0, .int .i64 0, .int .i64 0, .int .i64 0, .int .i64 0]) ?_ 1 _ rfl; (with_reducible repeat (first | refine blk_drewN ?_ _ | refine blk_drew ?_ | refine blk_alloc ?_ _)); refine blk_put (cs := #[.int .i64 0, .int .i64 0, .int .i64 0, .int .i64 0, .int .i64 0, .int .i64 0, .int .i64 0]) ?_ 0 _ rfl; (with_reducible repeat (first | refine blk_drewN ?_ _ | refine blk_drew ?_ | refine blk_alloc ?_ _)); exact BK384.out) Tryd.underlying23 rfl (by kernel_rfl)) rfl ?_
         exact ⟨by first | rfl | (simp [errW_none, errW_some] <;> rfl) | (simp [*, errW_none, errW_some] <;> rfl), by repeat (first | (with_reducible first | exact HB.out | apply below_alloc | apply pw_below_drewN | apply below_drew1 | refine below_set ?_ GE384.out) | exact HB.out)⟩
        ·rw [if_neg c15] at H
         have c15b0 : decide (2932896 < t385) = false := decide_eq_false c15
         clear c15
         replace H := Option.bind_eq_some_iff.mp H
         obtain ⟨⟨t387, t388, t389, t390, t391, t392, t393⟩, A170, H⟩ := H
         replace H : (some (t387, t388, t389, wrap64 (Int.tdiv t386 3600), Int.tmod (wrap64 (Int.tdiv t386 60)) 60, Int.tmod t386 60, a1, 0)) = some (r1, r2, r3, r4, r5, r6, r7, r8) := H
         have A17 := Aside0.mk A170
         clear A170
         simp only [Option.some.injEq, Prod.mk.injEq] at H
         obtain ⟨rfl, rfl, rfl, rfl, rfl, rfl, rfl, rfl⟩ := H
         go_upto_region 9 with (first | ((with_reducible refine gate_callee (f := 48) rfl ?_); refine goesL_ (some 28) rfl rfl Tryd.func48 (by kernel_rfl) rfl #[.int .i64 (wrap64 (a0 + (wrap64 (60 * a1)))), .int .i64 86400] rfl (by (try simp only [List.map_toArray, List.map_cons, List.map_nil]); first | done | rfl | (simp only [List.length_drop, List.length_take]; rfl)) ?_; (with_reducible refine (moment_floor.calls (wrap64 (a0 + (wrap64 (60 * a1)))) 86400 t385 t386 _ A12.out).mono ?_); rintro e w' ⟨rfl, ⟨nd, rfl⟩⟩; refine ⟨_, rfl, ?_⟩; (try (rw [drewN_self wc]; generalize hq_ : World.drewN wc _ = wc; have n0_ : Aside0 (wc.heap[gb384]? = some (.cells #[.int .i64 0, .int .i64 0, .int .i64 0, .int .i64 0, .int .i64 0, .int .i64 0, .int .i64 0] 23 (0, 0))) := ⟨by rw [← hq_]; exact (by (with_reducible repeat (first | refine blk_drewN ?_ _ | refine blk_drew ?_ | refine blk_alloc ?_ _)); exact BK384.out)⟩; have n1_ : Aside0 (Below w.heap.size w wc) := ⟨by rw [← hq_]; exact (by repeat (first | (with_reducible first | exact HB.out | apply below_alloc | apply pw_below_drewN | apply below_drew1 | refine below_set ?_ GE384.out) | exact HB.out))⟩; clear BK384 HB hq_; have BK384 := n0_; have HB := n1_; clear n0_ n1_))) | ((with_reducible refine gate_callee (f := 73) rfl ?_); refine goesL_ (some 40) rfl rfl Tryd.func73 (by kernel_rfl) rfl #[.int .i64 (wrap64 (t385 + 719162))] rfl (by (try simp only [List.map_toArray, List.map_cons, List.map_nil]); first | done | rfl | (simp only [List.length_drop, List.length_take]; rfl)) ?_; (with_reducible refine (moment_civil.calls kj7 (wrap64 (t385 + 719162)) t387 t388 t389 t390 t391 t392 t393 _ A17.out (by first | exact laid_below HL_.out (by repeat (first | (with_reducible first | exact HB.out | apply below_alloc | apply pw_below_drewN | apply below_drew1) | exact HB.out)) | exact laid_drawn HL_.out (by repeat (first | exact Drawn0.refl _ | apply Drawn0.step)))).mono ?_); rintro e w18 ⟨rfl, hb⟩; refine ⟨_, rfl, ?_⟩; have n0_ := Aside0.mk (blk_below (g := gb384) (o := .cells #[.int .i64 0, .int .i64 0, .int .i64 0, .int .i64 0, .int .i64 0, .int .i64 0, .int .i64 0] 23 (0, 0)) (by (with_reducible repeat (first | refine blk_drewN ?_ _ | refine blk_drew ?_ | refine blk_alloc ?_ _)); exact BK384.out) hb); have n1_ := Aside0.mk (below_step (by repeat (first | (with_reducible first | exact HB.out | apply below_alloc | apply pw_below_drewN | apply below_drew1 | refine below_set ?_ GE384.out) | exact HB.out)) hb); clear BK384; clear HB; have BK384 := n0_; have HB := n1_; clear n0_ n1_; (try clear hb); (try clear hb2); (try clear hk); (try clear hi)) | ((with_reducible refine gate_dst (N := 8) rfl ?_); refine box_event ?hg (N := 8) ?hd (cs := #[.int .i64 0, .int .i64 0, .int .i64 0, .int .i64 0, .int .i64 0, .int .i64 0, .int .i64 0]) (t := 23) ?hr ?_; (case hd => rfl); (case hg => rfl); (case hr => first | (go_simp; done) | (go_simp; rfl)); intro gb394 hg w19 hbox hb; have n0_ := Aside0.mk (blk_below (g := gb384) (o := .cells #[.int .i64 0, .int .i64 0, .int .i64 0, .int .i64 0, .int .i64 0, .int .i64 0, .int .i64 0] 23 (0, 0)) (by (with_reducible repeat (first | refine blk_drewN ?_ _ | refine blk_drew ?_ | refine blk_alloc ?_ _)); exact BK384.out) hb); have n1_ := Aside0.mk (below_step (by repeat (first | (with_reducible first | exact HB.out | apply below_alloc | apply pw_below_drewN | apply below_drew1 | refine below_set ?_ GE384.out) | exact HB.out)) hb); have n2_ := Aside0.mk (hbox); have n3_ := Aside0.mk ((by rw [hg]; exact (below_size (by repeat (first | (with_reducible first | exact HB.out | apply below_alloc | apply pw_below_drewN | apply below_drew1 | refine below_set ?_ GE384.out) | exact HB.out))) : w.heap.size ≤ gb394)); have n4_ := Aside0.mk ((by rw [hg]; exact (below_size (by repeat (first | (with_reducible first | exact HB.out | apply below_alloc | apply pw_below_drewN | apply below_drew1 | refine below_set ?_ GE384.out) | exact HB.out))) : w.heap.size ≤ gb394)); have n5_ := Aside0.mk ((by rw [hg]; exact Nat.ne_of_lt (blk_lt (g := gb384) (o := .cells #[.int .i64 0, .int .i64 0, .int .i64 0, .int .i64 0, .int .i64 0, .int .i64 0, .int .i64 0] 23 (0, 0)) (by (with_reducible repeat (first | refine blk_drewN ?_ _ | refine blk_drew ?_ | refine blk_alloc ?_ _)); exact BK384.out)) : gb384 ≠ gb394)); have n6_ := Aside0.mk ((by rw [hg]; exact Nat.ne_of_gt (blk_lt (g := gb384) (o := .cells #[.int .i64 0, .int .i64 0, .int .i64 0, .int .i64 0, .int .i64 0, .int .i64 0, .int .i64 0] 23 (0, 0)) (by (with_reducible repeat (first | refine blk_drewN ?_ _ | refine blk_drew ?_ | refine blk_alloc ?_ _)); exact BK384.out)) : gb394 ≠ gb384)); clear BK384; clear HB; have BK384 := n0_; have HB := n1_; have BK394 := n2_; have GW394 := n3_; have GE394 := n4_; have NB384_394 := n5_; have NB394_384 := n6_; clear n0_ n1_ n2_ n3_ n4_ n5_ n6_; clear hb hbox hg; have hnb20 := NB394_384.out; have hnc20 := NB384_394.out; have hcz21_0 : w19.cell? ⟨gb394, 0, none⟩ = some (.int .i64 0) := (blk_cell BK394.out 0).trans rfl; have hcz21_1 : w19.cell? ⟨gb394, 1, none⟩ = some (.int .i64 0) := (blk_cell BK394.out 1).trans rfl; have hcz21_2 : w19.cell? ⟨gb394, 2, none⟩ = some (.int .i64 0) := (blk_cell BK394.out 2).trans rfl; have hcz21_3 : w19.cell? ⟨gb394, 3, none⟩ = some (.int .i64 0) := (blk_cell BK394.out 3).trans rfl; have hcz21_4 : w19.cell? ⟨gb394, 4, none⟩ = some (.int .i64 0) := (blk_cell BK394.out 4).trans rfl; have hcz21_5 : w19.cell? ⟨gb394, 5, none⟩ = some (.int .i64 0) := (blk_cell BK394.out 5).trans rfl; have hcz21_6 : w19.cell? ⟨gb394, 6, none⟩ = some (.int .i64 0) := (blk_cell BK394.out 6).trans rfl; have hfz21_0 := blk_frozen BK394.out 0; have hfz21_1 := blk_frozen BK394.out 1; have hfz21_2 := blk_frozen BK394.out 2; have hfz21_3 := blk_frozen BK394.out 3; have hfz21_4 := blk_frozen BK394.out 4; have hfz21_5 := blk_frozen BK394.out 5; have hfz21_6 := blk_frozen BK394.out 6; have hcz22_0 : w19.cell? ⟨gb384, 0, none⟩ = some (.int .i64 0) := (blk_cell BK384.out 0).trans rfl; have hcz22_1 : w19.cell? ⟨gb384, 1, none⟩ = some (.int .i64 0) := (blk_cell BK384.out 1).trans rfl; have hcz22_2 : w19.cell? ⟨gb384, 2, none⟩ = some (.int .i64 0) := (blk_cell BK384.out 2).trans rfl; have hcz22_3 : w19.cell? ⟨gb384, 3, none⟩ = some (.int .i64 0) := (blk_cell BK384.out 3).trans rfl; have hcz22_4 : w19.cell? ⟨gb384, 4, none⟩ = some (.int .i64 0) := (blk_cell BK384.out 4).trans rfl; have hcz22_5 : w19.cell? ⟨gb384, 5, none⟩ = some (.int .i64 0) := (blk_cell BK384.out 5).trans rfl; have hcz22_6 : w19.cell? ⟨gb384, 6, none⟩ = some (.int .i64 0) := (blk_cell BK384.out 6).trans rfl; have hfz22_0 := blk_frozen BK384.out 0; have hfz22_1 := blk_frozen BK384.out 1; have hfz22_2 := blk_frozen BK384.out 2; have hfz22_3 := blk_frozen BK384.out 3; have hfz22_4 := blk_frozen BK384.out 4; have hfz22_5 := blk_frozen BK384.out 5; have hfz22_6 := blk_frozen BK384.out 6))
         have S7 := set7 BK394.out (.int .i64 t387) (.int .i64 t388) (.int .i64 t389) (.int .i64 t390) (.int .i64 t391) (.int .i64 t392) (.int .i64 t393)
         have n0_ := Lib.hid S7.1
         have n1_ := Lib.hid (S7.2 _ _ HB.out GE394.out)
         have n2_ : Aside0 ((((((((w19.setCell ⟨gb394, 0, none⟩ (.int .i64 t387)).setCell ⟨gb394, 1, none⟩ (.int .i64 t388)).setCell ⟨gb394, 2, none⟩ (.int .i64 t389)).setCell ⟨gb394, 3, none⟩ (.int .i64 t390)).setCell ⟨gb394, 4, none⟩ (.int .i64 t391)).setCell ⟨gb394, 5, none⟩ (.int .i64 t392)).setCell ⟨gb394, 6, none⟩ (.int .i64 t393)).heap[gb384]? = some (.cells #[.int .i64 0, .int .i64 0, .int .i64 0, .int .i64 0, .int .i64 0, .int .i64 0, .int .i64 0] 23 (0, 0))) := ⟨by (repeat (refine blk_far ?_ NB384_394.out _)); exact BK384.out⟩
         clear S7
         generalize (((((((w19.setCell ⟨gb394, 0, none⟩ (.int .i64 t387)).setCell ⟨gb394, 1, none⟩ (.int .i64 t388)).setCell ⟨gb394, 2, none⟩ (.int .i64 t389)).setCell ⟨gb394, 3, none⟩ (.int .i64 t390)).setCell ⟨gb394, 4, none⟩ (.int .i64 t391)).setCell ⟨gb394, 5, none⟩ (.int .i64 t392)).setCell ⟨gb394, 6, none⟩ (.int .i64 t393)) = w20 at *
         clear BK394 BK384 HB
         clear hcz21_0 hcz21_1 hcz21_2 hcz21_3 hcz21_4 hcz21_5 hcz21_6 hfz21_0 hfz21_1 hfz21_2 hfz21_3 hfz21_4 hfz21_5 hfz21_6 hcz22_0 hcz22_1 hcz22_2 hcz22_3 hcz22_4 hcz22_5 hcz22_6 hfz22_0 hfz22_1 hfz22_2 hfz22_3 hfz22_4 hfz22_5 hfz22_6
         obtain ⟨⟨k0, k1, k2, k3, k4, k5, k6⟩, kf⟩ := cells7 n0_.out
         have kf3 := kf 3
         have kf4 := kf 4
         have kf5 := kf 5
         have kf6 := kf 6
         go_upto_region 10 with fail
         have m0_ := Aside0.mk (blk_put (cs' := #[.int .i64 t387, .int .i64 t388, .int .i64 t389, .int .i64 (wrap64 (Int.tdiv t386 3600)), .int .i64 (Int.tmod (wrap64 (Int.tdiv t386 60)) 60), .int .i64 (Int.tmod t386 60), .int .i64 a1]) (blk_put (cs' := #[.int .i64 t387, .int .i64 t388, .int .i64 t389, .int .i64 (wrap64 (Int.tdiv t386 3600)), .int .i64 (Int.tmod (wrap64 (Int.tdiv t386 60)) 60), .int .i64 (Int.tmod t386 60), .int .i64 t393]) (blk_put (cs' := #[.int .i64 t387, .int .i64 t388, .int .i64 t389, .int .i64 (wrap64 (Int.tdiv t386 3600)), .int .i64 (Int.tmod (wrap64 (Int.tdiv t386 60)) 60), .int .i64 t392, .int .i64 t393]) (blk_put (cs' := #[.int .i64 t387, .int .i64 t388, .int .i64 t389, .int .i64 (wrap64 (Int.tdiv t386 3600)), .int .i64 t391, .int .i64 t392, .int .i64 t393]) n0_.out 3 (.int .i64 (wrap64 (Int.tdiv t386 3600))) rfl) 4 (.int .i64 (Int.tmod (wrap64 (Int.tdiv t386 60)) 60)) rfl) 5 (.int .i64 (Int.tmod t386 60)) rfl) 6 (.int .i64 a1) rfl)
         have m1_ := Aside0.mk (Below.setCell (Below.setCell (Below.setCell (Below.setCell n1_.out (p := ⟨gb394, 3, none⟩) GE394.out (.int .i64 (wrap64 (Int.tdiv t386 3600)))) (p := ⟨gb394, 4, none⟩) GE394.out (.int .i64 (Int.tmod (wrap64 (Int.tdiv t386 60)) 60))) (p := ⟨gb394, 5, none⟩) GE394.out (.int .i64 (Int.tmod t386 60))) (p := ⟨gb394, 6, none⟩) GE394.out (.int .i64 a1))
         have m2_ : Aside0 (((((w20.setCell ⟨gb394, 3, none⟩ (.int .i64 (wrap64 (Int.tdiv t386 3600)))).setCell ⟨gb394, 4, none⟩ (.int .i64 (Int.tmod (wrap64 (Int.tdiv t386 60)) 60))).setCell ⟨gb394, 5, none⟩ (.int .i64 (Int.tmod t386 60))).setCell ⟨gb394, 6, none⟩ (.int .i64 a1)).heap[gb384]? = some (.cells #[.int .i64 0, .int .i64 0, .int .i64 0, .int .i64 0, .int .i64 0, .int .i64 0, .int .i64 0] 23 (0, 0))) := ⟨by (repeat (refine blk_far ?_ NB384_394.out _)); exact n2_.out⟩
         generalize ((((w20.setCell ⟨gb394, 3, none⟩ (.int .i64 (wrap64 (Int.tdiv t386 3600)))).setCell ⟨gb394, 4, none⟩ (.int .i64 (Int.tmod (wrap64 (Int.tdiv t386 60)) 60))).setCell ⟨gb394, 5, none⟩ (.int .i64 (Int.tmod t386 60))).setCell ⟨gb394, 6, none⟩ (.int .i64 a1)) = w21 at *
         clear n0_ n1_ n2_ k0 k1 k2 k3 k4 k5 k6 kf kf3 kf4 kf5 kf6
         obtain ⟨⟨k0, k1, k2, k3, k4, k5, k6⟩, kf⟩ := cells7 m0_.out
         obtain ⟨⟨q0, q1, q2, q3, q4, q5, q6⟩, qf⟩ := cells7 m2_.out
         have qf0 := qf 0
         have qf1 := qf 1
         have qf2 := qf 2
         have qf3 := qf 3
         have qf4 := qf 4
         have qf5 := qf 5
         have qf6 := qf 6
         go_wp2
         exact bodyPost_ret (results_ct rfl _ _ gb384 23 #[.int .i64 t387, .int .i64 t388, .int .i64 t389, .int .i64 (wrap64 (Int.tdiv t386 3600)), .int .i64 (Int.tmod (wrap64 (Int.tdiv t386 60)) 60), .int .i64 (Int.tmod t386 60), .int .i64 a1] (0, 0) _ rfl (set7 m2_.out _ _ _ _ _ _ _).1 Tryd.underlying23 rfl (by kernel_rfl)) rfl ⟨rfl, (set7 m2_.out _ _ _ _ _ _ _).2 _ _ m1_.out GE384.out⟩
end Go.Proofs.YtjlchnmpebdggaaDoor.Mo
end
section
namespace Go.Proofs.YtjlchnmpebdggaaDoor.Mo
open Go.RowKit Go.Proofs.YtjlchnmpebdggaaDoorW.PrintWords Go.Proofs.YtjlchnmpebdggaaDoorW.PrintLast Go.Proofs.YtjlchnmpebdggaaDoorW.PrintMore
attribute [local go_sem] max2_int min2_int max_two min_two max_three min_three max_four min_four   -- for this text's walks alone
set_option linter.unusedVariables false
set_option linter.unusedSimpArgs false
mutual
def postbagref2_At.j0 : Nat → Int → Int → Bool → Option (Int × Int × Int × Int × Int × Int × Int × Int)
 | 0, _, _, _ => none
 | k + 1, x0, x1, x14 => if x14 = true then (some (0, 0, 0, 0, 0, 0, 0, 1)) else (if x0 < (-62135696800) then (postbagref2_At.j1 k x0 x1 true) else (if x0 > 253402400799 then (postbagref2_At.j1 k x0 x1 true) else (if (wrap64 (x0 + (wrap64 (60 * x1)))) < (-62135596800) then (postbagref2_At.j1 k x0 x1 true) else (postbagref2_At.j1 k x0 x1 (decide ((wrap64 (x0 + (wrap64 (60 * x1)))) > 253402300799))))))
def postbagref2_At.j1 : Nat → Int → Int → Bool → Option (Int × Int × Int × Int × Int × Int × Int × Int)
 | 0, _, _, _ => none
 | k + 1, x0, x1, x35 => if x35 = true then (some (0, 0, 0, 0, 0, 0, 0, 22)) else (postbagref2_At.l0 k (wrap64 (Int.tdiv (wrap64 ((wrap64 (x0 + (wrap64 (60 * x1)))) - (-62135596800))) 86400)) 1 1 0 (wrap64 (Int.tdiv (Int.tmod (wrap64 ((wrap64 (x0 + (wrap64 (60 * x1)))) - (-62135596800))) 86400) 3600)) (Int.tmod (wrap64 (Int.tdiv (Int.tmod (wrap64 ((wrap64 (x0 + (wrap64 (60 * x1)))) - (-62135596800))) 86400) 60)) 60) (Int.tmod (wrap64 ((wrap64 (x0 + (wrap64 (60 * x1)))) - (-62135596800))) 60) x1)
def postbagref2_At.l0 : Nat → Int → Int → Int → Int → Int → Int → Int → Int → Option (Int × Int × Int × Int × Int × Int × Int × Int)
 | 0, _, _, _, _, _, _, _, _ => none
 | k + 1, x7, x397000, x397001, x397002, x397003, x397004, x397005, x397006 => (postbagref2_year.f x397000).bind fun t397 => (if x7 ≥ t397 then ((postbagref2_year.f x397000).bind fun t398 => (postbagref2_At.l0 k (wrap64 (x7 - t398)) (wrap64 (x397000 + 1)) x397001 x397002 x397003 x397004 x397005 x397006)) else (postbagref2_At.l1 k x7 x397000 x397001 x397002 x397003 x397004 x397005 x397006))
def postbagref2_At.l1 : Nat → Int → Int → Int → Int → Int → Int → Int → Int → Option (Int × Int × Int × Int × Int × Int × Int × Int)
 | 0, _, _, _, _, _, _, _, _ => none
 | k + 1, x7, x397000, x397001, x397002, x397003, x397004, x397005, x397006 => (postbagref2_length.f k x397000 x397001).bind fun t399 => (if x7 ≥ t399 then ((postbagref2_length.f k x397000 x397001).bind fun t400 => (postbagref2_At.l1 k (wrap64 (x7 - t400)) x397000 (wrap64 (x397001 + 1)) x397002 x397003 x397004 x397005 x397006)) else (some (x397000, x397001, wrap64 (x7 + 1), x397003, x397004, x397005, x397006, 0)))
end
def postbagref2_At.f (k : Nat) (a0 : Int) (a1 : Int) : Option (Int × Int × Int × Int × Int × Int × Int × Int) := if a1 < (-1439) then (postbagref2_At.j0 k a0 a1 true) else (postbagref2_At.j0 k a0 a1 (decide (a1 > 1439)))
end Go.Proofs.YtjlchnmpebdggaaDoor.Mo
end
section
namespace Go.Proofs.YtjlchnmpebdggaaDoor.Mo
open Go.RowKit Go.Proofs.YtjlchnmpebdggaaDoorW.PrintWords
theorem cum12 (y : Int) : cumN y 12 = yearLen y := by
  simp only [cumN, lengthP, yearLen]
  cases leapB y <;> decide
set_option maxHeartbeats 1000000 in
theorem find_m (y : Int) : ∀ (n j : Nat) (x : Int), 1 ≤ j → j + n = 12 → 0 ≤ x → x < cumN y 12 - cumN y (j - 1) →
    ∃ M : Nat, j ≤ M ∧ M ≤ 12 ∧ 0 ≤ x + cumN y (j - 1) - cumN y (M - 1) ∧ x + cumN y (j - 1) - cumN y (M - 1) < lengthP y (M : Int) ∧
      ∀ k, n + 1 < k → moment_civil.l0 k x y (j : Int) = some (y, (M : Int), x + cumN y (j - 1) - cumN y (M - 1) + 1, 0, 0, 0, 0) ∧
        ∀ h mi s z, postbagref2_At.l1 k x y (j : Int) 0 h mi s z = some (y, (M : Int), x + cumN y (j - 1) - cumN y (M - 1) + 1, h, mi, s, z, 0) := by
  intro n
  induction n with
  | zero =>
    intro j x h1 h2 hx0 hx1
    obtain rfl : j = 12 := by omega
    have hs := cum_step y 12 (by omega)
    have hl := length_range y ((12 : Nat) : Int) (by omega) (by omega)
    have hlf : moment_length.f y ((12 : Nat) : Int) = some (lengthP y ((12 : Nat) : Int)) := if_pos ⟨by omega, by omega⟩
    refine ⟨12, by omega, by omega, by omega, by omega, fun k hk => ?_⟩
    obtain ⟨k, rfl⟩ : ∃ q, k = q + 1 := ⟨k - 1, by omega⟩
    have hlr := length_ref k (by omega) y ((12 : Nat) : Int) (by omega) (by omega)
    constructor
    · simp only [moment_civil.l0]
      rw [hlf]
      simp only [Option.bind_some]
      rw [if_neg (by omega), w64 _ (by omega) (by omega)]
      congr 4
      omega
    · intro h mi s z
      simp only [postbagref2_At.l1]
      rw [hlr]
      simp only [Option.bind_some]
      rw [if_neg (by omega), w64 _ (by omega) (by omega)]
      congr 4
      omega
  | succ n ih =>
    intro j x h1 h2 hx0 hx1
    have hs := cum_step y j h1
    have hl := length_range y (j : Int) (by omega) (by omega)
    have hlf : moment_length.f y (j : Int) = some (lengthP y (j : Int)) := if_pos ⟨by omega, by omega⟩
    have hc := cumN_range y 12 (by omega)
    have hc1 := cumN_range y (j - 1) (by omega)
    by_cases hb : x < lengthP y (j : Int)
    · refine ⟨j, by omega, by omega, by omega, by omega, fun k hk => ?_⟩
      obtain ⟨k, rfl⟩ : ∃ q, k = q + 1 := ⟨k - 1, by omega⟩
      have hlr := length_ref k (by omega) y (j : Int) (by omega) (by omega)
      constructor
      · simp only [moment_civil.l0]
        rw [hlf]
        simp only [Option.bind_some]
        rw [if_neg (by omega), w64 _ (by omega) (by omega)]
        congr 4
        omega
      · intro h mi s z
        simp only [postbagref2_At.l1]
        rw [hlr]
        simp only [Option.bind_some]
        rw [if_neg (by omega), w64 _ (by omega) (by omega)]
        congr 4
        omega
    · obtain ⟨M, m1, m2, m3, m4, m5⟩ := ih (j + 1) (x - lengthP y (j : Int)) (by omega) (by omega) (by omega) (by rw [show j + 1 - 1 = j from rfl]; omega)
      rw [show j + 1 - 1 = j from rfl] at m3 m4 m5
      have ex : x - lengthP y (j : Int) + cumN y j = x + cumN y (j - 1) := by omega
      rw [ex] at m3 m4 m5
      refine ⟨M, by omega, m2, m3, m4, fun k hk => ?_⟩
      obtain ⟨k, rfl⟩ : ∃ q, k = q + 1 := ⟨k - 1, by omega⟩
      have hlr := length_ref k (by omega) y (j : Int) (by omega) (by omega)
      obtain ⟨r1, r2⟩ := m5 k (by omega)
      rw [show ((j + 1 : Nat) : Int) = (j : Int) + 1 from by omega] at r1 r2
      constructor
      · simp only [moment_civil.l0]
        rw [hlf]
        simp only [Option.bind_some]
        rw [if_pos (by omega), w64 _ (by omega) (by omega), w64 _ (by omega) (by omega)]
        exact r1
      · intro h mi s z
        simp only [postbagref2_At.l1]
        rw [hlr]
        simp only [Option.bind_some]
        rw [if_pos (by omega), w64 _ (by omega) (by omega), w64 _ (by omega) (by omega)]
        exact r2 h mi s z
theorem find_y : ∀ (n : Nat) (y x : Int), 1 ≤ y → y + n = 9999 → 0 ≤ x → x < dby 10000 - dby y →
    ∃ Y, y ≤ Y ∧ Y ≤ 9999 ∧ 0 ≤ x + dby y - dby Y ∧ x + dby y - dby Y < yearLen Y ∧
      ∀ k, n < k → ∃ k', k ≤ k' + n + 1 ∧ ∀ a b c d e f, postbagref2_At.l0 k x y a b c d e f = postbagref2_At.l1 k' (x + dby y - dby Y) Y a b c d e f := by
  intro n
  induction n with
  | zero =>
    intro y x h1 h2 hx0 hx1
    obtain rfl : y = 9999 := by omega
    have hs : dby 10000 = dby 9999 + yearLen 9999 := dby_succ 9999 (by omega)
    refine ⟨9999, by omega, by omega, by omega, by omega, fun k hk => ?_⟩
    obtain ⟨k, rfl⟩ : ∃ q, k = q + 1 := ⟨k - 1, by omega⟩
    refine ⟨k, by omega, fun a b c d e f => ?_⟩
    simp only [postbagref2_At.l0]
    rw [year_ref]
    simp only [Option.bind_some]
    rw [if_neg (by omega), show x + dby 9999 - dby 9999 = x from by omega]
  | succ n ih =>
    intro y x h1 h2 hx0 hx1
    have hs := dby_succ y (by omega)
    have hr := dby_range y (by omega) (by omega)
    have hr1 := dby_range 10000 (by omega) (by omega)
    have hl := yearLen_range y
    by_cases hb : x < yearLen y
    · refine ⟨y, by omega, by omega, by omega, by omega, fun k hk => ?_⟩
      obtain ⟨k, rfl⟩ : ∃ q, k = q + 1 := ⟨k - 1, by omega⟩
      refine ⟨k, by omega, fun a b c d e f => ?_⟩
      simp only [postbagref2_At.l0]
      rw [year_ref]
      simp only [Option.bind_some]
      rw [if_neg (by omega), show x + dby y - dby y = x from by omega]
    · obtain ⟨Y, y1, y2, y3, y4, y5⟩ := ih (y + 1) (x - yearLen y) (by omega) (by omega) (by omega) (by omega)
      have ex : x - yearLen y + dby (y + 1) = x + dby y := by omega
      rw [ex] at y3 y4 y5
      refine ⟨Y, by omega, y2, y3, y4, fun k hk => ?_⟩
      obtain ⟨k, rfl⟩ : ∃ q, k = q + 1 := ⟨k - 1, by omega⟩
      obtain ⟨k', e1, e2⟩ := y5 k (by omega)
      refine ⟨k', by omega, fun a b c d e f => ?_⟩
      simp only [postbagref2_At.l0]
      rw [year_ref]
      simp only [Option.bind_some]
      rw [if_pos (by omega), w64 _ (by omega) (by omega), w64 _ (by omega) (by omega)]
      exact e2 a b c d e f
theorem dby_mono {a b : Int} (h : a ≤ b) : dby a ≤ dby b := by unfold dby; omega
theorem year_unique {N a b : Int} (ha : 1 ≤ a) (hb : 1 ≤ b) (a1 : dby a ≤ N) (a2 : N < dby a + yearLen a) (b1 : dby b ≤ N) (b2 : N < dby b + yearLen b) : a = b := by
  rw [← dby_succ a ha] at a2
  rw [← dby_succ b hb] at b2
  rcases Int.lt_trichotomy a b with h | h | h
  · have := dby_mono (show a + 1 ≤ b by omega); omega
  · exact h
  · have := dby_mono (show b + 1 ≤ a by omega); omega
set_option maxHeartbeats 1000000 in
theorem civil_year (k : Nat) (N Y : Int) (h0 : 0 ≤ N) (h1 : N ≤ 3652058) (y1 : 1 ≤ Y) (a1 : dby Y ≤ N) (a2 : N < dby Y + yearLen Y) : moment_civil.f k N = moment_civil.l0 k (N - dby Y) Y 1 := by
  unfold moment_civil.f
  rw [Int.tmod_eq_emod_of_nonneg h0, Int.tdiv_eq_ediv_of_nonneg h0]
  have hA : ∃ A, A = N / 146097 := ⟨_, rfl⟩
  obtain ⟨A, hA⟩ := hA
  have hR : ∃ R, R = N % 146097 := ⟨_, rfl⟩
  obtain ⟨R, hR⟩ := hR
  rw [← hA, ← hR]
  have r0 : 0 ≤ R ∧ R < 146097 := by omega
  have r1 : N = 146097 * A + R := by omega
  have r2 : 0 ≤ A ∧ A ≤ 24 := by omega
  clear hA hR
  rw [Int.tdiv_eq_ediv_of_nonneg r0.1]
  obtain ⟨B, hB⟩ : ∃ B, B = mn (wrap64 (R / 36524)) 3 := ⟨_, rfl⟩
  rw [← hB]
  rw [w64 _ (by omega) (by omega)] at hB
  have b0 : 0 ≤ B ∧ B ≤ 3 ∧ 36524 * B ≤ R ∧ (B ≤ 2 → R < 36524 * B + 36524) := by unfold mn at hB; split at hB <;> omega
  clear hB
  rw [w64 (36524 * B) (by omega) (by omega), w64 (R - 36524 * B) (by omega) (by omega)]
  obtain ⟨S, hS⟩ : ∃ S, S = R - 36524 * B := ⟨_, rfl⟩
  rw [← hS]
  have s0 : 0 ≤ S ∧ S ≤ 36524 ∧ (S = 36524 → B = 3) := by omega
  rw [Int.tmod_eq_emod_of_nonneg s0.1, Int.tdiv_eq_ediv_of_nonneg s0.1]
  obtain ⟨C, hC⟩ : ∃ C, C = S / 1461 := ⟨_, rfl⟩
  obtain ⟨U, hU⟩ : ∃ U, U = S % 1461 := ⟨_, rfl⟩
  rw [← hC, ← hU]
  have u0 : 0 ≤ U ∧ U ≤ 1460 ∧ S = 1461 * C + U ∧ 0 ≤ C ∧ C ≤ 24 := by omega
  clear hC hU
  rw [Int.tdiv_eq_ediv_of_nonneg u0.1]
  obtain ⟨E, hE⟩ : ∃ E, E = mn (wrap64 (U / 365)) 3 := ⟨_, rfl⟩
  rw [← hE]
  rw [w64 _ (by omega) (by omega)] at hE
  have e0 : 0 ≤ E ∧ E ≤ 3 ∧ 365 * E ≤ U ∧ (E ≤ 2 → U < 365 * E + 365) := by unfold mn at hE; split at hE <;> omega
  clear hE
  rw [w64 A (by omega) (by omega), w64 (400 * A) (by omega) (by omega), w64 (1 + 400 * A) (by omega) (by omega), w64 (100 * B) (by omega) (by omega), w64 C (by omega) (by omega), w64 (4 * C) (by omega) (by omega), w64 (100 * B + 4 * C) (by omega) (by omega), w64 (1 + 400 * A + (100 * B + 4 * C)) (by omega) (by omega), w64 (1 + 400 * A + (100 * B + 4 * C) + E) (by omega) (by omega), w64 (365 * E) (by omega) (by omega), w64 (U - 365 * E) (by omega) (by omega)]
  have hy : 1 ≤ 1 + 400 * A + (100 * B + 4 * C) + E := by omega
  have hd : dby (1 + 400 * A + (100 * B + 4 * C) + E) = 365 * (400 * A + 100 * B + 4 * C + E) + (100 * A + 25 * B + C) - (4 * A + B) + A := by
    have q1 : (1 + 400 * A + (100 * B + 4 * C) + E - 1) / 4 = 100 * A + 25 * B + C := by omega
    have q2 : (1 + 400 * A + (100 * B + 4 * C) + E - 1) / 100 = 4 * A + B := by omega
    have q3 : (1 + 400 * A + (100 * B + 4 * C) + E - 1) / 400 = A := by omega
    unfold dby
    rw [q1, q2, q3]
    omega
  have hl : U - 365 * E < yearLen (1 + 400 * A + (100 * B + 4 * C) + E) := by
    unfold yearLen leapB
    rw [Int.tmod_eq_emod_of_nonneg (by omega), Int.tmod_eq_emod_of_nonneg (by omega), Int.tmod_eq_emod_of_nonneg (by omega)]
    by_cases hE : E ≤ 2
    · split <;> omega
    · have hE3 : E = 3 := by omega
      subst hE3
      have m4 : (1 + 400 * A + (100 * B + 4 * C) + 3) % 4 = 0 := by omega
      by_cases hU : U = 1460
      · have hmm : (1 + 400 * A + (100 * B + 4 * C) + 3) % 100 ≠ 0 ∨ (1 + 400 * A + (100 * B + 4 * C) + 3) % 400 = 0 := by
          by_cases hC : C = 24
          · right; have : B = 3 := s0.2.2 (by omega); omega
          · left; omega
        rw [if_pos (by rcases hmm with h | h <;> simp [m4, h])]
        omega
      · split <;> omega
  have hYe : Y = 1 + 400 * A + (100 * B + 4 * C) + E := year_unique y1 hy a1 a2 (by omega) (by omega)
  rw [← hYe] at hd
  rw [← hYe]
  congr 1
  omega
def AtSpec (a z : Int) (r : Int × Int × Int × Int × Int × Int × Int × Int) : Prop :=
  ((z < -1439 ∨ 1439 < z) ∧ r = (0, 0, 0, 0, 0, 0, 0, 1)) ∨
  ((-1439 ≤ z ∧ z ≤ 1439) ∧ (a + 60 * z < -62135596800 ∨ 253402300799 < a + 60 * z) ∧ r = (0, 0, 0, 0, 0, 0, 0, 22)) ∨
  ((-1439 ≤ z ∧ z ≤ 1439) ∧ (-62135596800 ≤ a + 60 * z ∧ a + 60 * z ≤ 253402300799) ∧
    ∃ y m d h mi s, r = (y, m, d, h, mi, s, z, 0) ∧ validB y m d h mi s z = true ∧ stampP y m d h mi s z = a)
theorem civil_both (T : Int) (t0 : -62135596800 ≤ T) (t1 : T ≤ 253402300799) : ∃ Y M D, (1 ≤ Y ∧ Y ≤ 9999 ∧ 1 ≤ M ∧ M ≤ 12 ∧ 1 ≤ D ∧ D ≤ lengthP Y M) ∧ daysP Y M D = T / 86400 ∧
    (∀ k, 20 ≤ k → moment_civil.f k (T / 86400 + 719162) = some (Y, M, D, 0, 0, 0, 0)) ∧
    (∀ k, 12000 ≤ k → ∀ h mi s z, postbagref2_At.l0 k (T / 86400 + 719162) 1 1 0 h mi s z = some (Y, M, D, h, mi, s, z, 0)) := by
  have d0 : dby 10000 = 3652059 := by decide
  have d1 : dby 1 = 0 := by decide
  generalize hN : T / 86400 + 719162 = N
  have n0 : 0 ≤ N ∧ N ≤ 3652058 := by omega
  obtain ⟨Y, y1, y2, y3, y4, y5⟩ := find_y 9998 1 N (by omega) (by omega) n0.1 (by omega)
  have e0 : N + dby 1 - dby Y = N - dby Y := by omega
  rw [e0] at y3 y4 y5
  have hc0 : cumN Y (1 - 1) = 0 := rfl
  obtain ⟨M, m1, m2, m3, m4, m5⟩ := find_m Y 11 1 (N - dby Y) (by omega) (by omega) y3 (by rw [cum12, hc0]; omega)
  rw [hc0] at m3 m4 m5
  refine ⟨Y, (M : Int), N - dby Y + 0 - cumN Y (M - 1) + 1, ⟨by omega, y2, by omega, by omega, by omega, by omega⟩, ?_, ?_, ?_⟩
  · unfold daysP
    rw [show ((M : Int) - 1).toNat = M - 1 from by omega]
    omega
  · intro k hk
    rw [civil_year k N Y n0.1 n0.2 y1 (by omega) (by omega)]
    exact (m5 k (by omega)).1
  · intro k hk h mi s z
    obtain ⟨k', e1, e2⟩ := y5 k (by omega)
    rw [e2]
    exact (m5 k' (by omega)).2 h mi s z
set_option maxHeartbeats 1000000 in
theorem at_both (a z : Int) : ∃ r, AtSpec a z r ∧ (∀ k, 30 ≤ k → moment_At.f k a z = some r) ∧ (∀ k, 20000 ≤ k → postbagref2_At.f k a z = some r) := by
  by_cases hz1 : z < -1439
  · refine ⟨_, .inl ⟨.inl hz1, rfl⟩, fun k hk => ?_, fun k hk => ?_⟩
    · obtain ⟨k, rfl⟩ : ∃ q, k = q + 1 := ⟨k - 1, by omega⟩
      unfold moment_At.f; rw [if_pos hz1]; simp only [moment_At.j0]; rfl
    · obtain ⟨k, rfl⟩ : ∃ q, k = q + 1 := ⟨k - 1, by omega⟩
      unfold postbagref2_At.f; rw [if_pos hz1]; simp only [postbagref2_At.j0]; rfl
  by_cases hz2 : z > 1439
  · refine ⟨_, .inl ⟨.inr hz2, rfl⟩, fun k hk => ?_, fun k hk => ?_⟩
    · obtain ⟨k, rfl⟩ : ∃ q, k = q + 1 := ⟨k - 1, by omega⟩
      unfold moment_At.f; rw [if_neg hz1]; simp only [moment_At.j0, decide_eq_true hz2]; rfl
    · obtain ⟨k, rfl⟩ : ∃ q, k = q + 1 := ⟨k - 1, by omega⟩
      unfold postbagref2_At.f; rw [if_neg hz1]; simp only [postbagref2_At.j0, decide_eq_true hz2]; rfl
  have hz3 : decide (z > 1439) = false := decide_eq_false hz2
  by_cases hT : a + 60 * z < -62135596800 ∨ 253402300799 < a + 60 * z
  · refine ⟨_, .inr (.inl ⟨⟨by omega, by omega⟩, hT, rfl⟩), fun k hk => ?_, fun k hk => ?_⟩
    · obtain ⟨k, rfl⟩ : ∃ q, k = q + 2 := ⟨k - 2, by omega⟩
      unfold moment_At.f; rw [if_neg hz1, hz3]; simp only [moment_At.j0]
      rw [if_neg (by decide)]
      by_cases h1 : a < -345600000000
      · rw [if_pos h1]; simp only [moment_At.j1]; rfl
      rw [if_neg h1]
      simp only [moment_At.j1]
      by_cases h2 : a > 345600000000
      · rw [if_pos (decide_eq_true h2)]
      rw [if_neg (by simpa using h2), w64 (60 * z) (by omega) (by omega), w64 (a + 60 * z) (by omega) (by omega), floor_f _ 86400 (by omega) (by omega) (by omega) (by omega)]
      simp only [Option.bind_some]
      by_cases h3 : (a + 60 * z) / 86400 < -719162
      · rw [if_pos h3]
      · rw [if_neg h3, if_pos (by omega)]
    · obtain ⟨k, rfl⟩ : ∃ q, k = q + 2 := ⟨k - 2, by omega⟩
      unfold postbagref2_At.f; rw [if_neg hz1, hz3]; simp only [postbagref2_At.j0]
      rw [if_neg (by decide)]
      by_cases h1 : a < -62135696800
      · rw [if_pos h1]; simp only [postbagref2_At.j1]; rfl
      rw [if_neg h1]
      by_cases h2 : a > 253402400799
      · rw [if_pos h2]; simp only [postbagref2_At.j1]; rfl
      rw [if_neg h2, w64 (60 * z) (by omega) (by omega), w64 (a + 60 * z) (by omega) (by omega)]
      by_cases h3 : a + 60 * z < -62135596800
      · rw [if_pos h3]; simp only [postbagref2_At.j1]; rfl
      rw [if_neg h3]
      simp only [postbagref2_At.j1]
      rw [if_pos (decide_eq_true (by omega))]
  have t0 : -62135596800 ≤ a + 60 * z := by omega
  have t1 : a + 60 * z ≤ 253402300799 := by omega
  obtain ⟨Y, M, D, hd, hdp, p1, p2⟩ := civil_both (a + 60 * z) t0 t1
  generalize hTT : a + 60 * z = T at *
  have hv : validB Y M D (T % 86400 / 3600) (T % 86400 / 60 % 60) (T % 60) z = true :=
    (valid_iff _ _ _ _ _ _ _).2 ⟨(isDay_iff _ _ _).2 hd, (time_iff _ _ _ _).2 ⟨by omega, by omega, by omega, by omega, by omega, by omega, by omega, by omega⟩⟩
  refine ⟨_, .inr (.inr ⟨⟨by omega, by omega⟩, ⟨by omega, by omega⟩, Y, M, D, T % 86400 / 3600, T % 86400 / 60 % 60, T % 60, rfl, hv, ?_⟩), fun k hk => ?_, fun k hk => ?_⟩
  · unfold stampP
    rw [if_pos hv, hdp]
    omega
  · obtain ⟨k, rfl⟩ : ∃ q, k = q + 2 := ⟨k - 2, by omega⟩
    unfold moment_At.f; rw [if_neg hz1, hz3]; simp only [moment_At.j0]
    rw [if_neg (by decide), if_neg (by omega)]
    simp only [moment_At.j1]
    rw [if_neg (by simp; omega), w64 (60 * z) (by omega) (by omega), hTT, w64 T (by omega) (by omega), floor_f _ 86400 (by omega) (by omega) (by omega) (by omega)]
    simp only [Option.bind_some]
    rw [if_neg (by omega), if_neg (by omega), w64 (T / 86400 + 719162) (by omega) (by omega), p1 k (by omega)]
    simp only [Option.bind_some]
    have m0 := Int.emod_nonneg T (show (86400 : Int) ≠ 0 by omega)
    rw [Int.tdiv_eq_ediv_of_nonneg m0, Int.tdiv_eq_ediv_of_nonneg m0, Int.tmod_eq_emod_of_nonneg m0, w64 (T % 86400 / 3600) (by omega) (by omega), w64 (T % 86400 / 60) (by omega) (by omega), Int.tmod_eq_emod_of_nonneg (by omega), show T % 86400 % 60 = T % 60 from by omega]
  · obtain ⟨k, rfl⟩ : ∃ q, k = q + 2 := ⟨k - 2, by omega⟩
    unfold postbagref2_At.f; rw [if_neg hz1, hz3]; simp only [postbagref2_At.j0]
    rw [if_neg (by decide), if_neg (by omega), if_neg (by omega), w64 (60 * z) (by omega) (by omega), hTT, w64 T (by omega) (by omega), if_neg (by omega)]
    simp only [postbagref2_At.j1]
    rw [if_neg (by simp; omega), w64 (60 * z) (by omega) (by omega), hTT, w64 T (by omega) (by omega), show T - -62135596800 = T + 62135596800 from by omega, w64 (T + 62135596800) (by omega) (by omega)]
    have m0 : 0 ≤ T + 62135596800 := by omega
    rw [Int.tdiv_eq_ediv_of_nonneg m0, Int.tmod_eq_emod_of_nonneg m0, Int.tmod_eq_emod_of_nonneg m0]
    have q1 : (T + 62135596800) / 86400 = T / 86400 + 719162 := by omega
    have q2 : (T + 62135596800) % 86400 = T % 86400 := by omega
    have q3 : (T + 62135596800) % 60 = T % 60 := by omega
    rw [q1, q2, q3, w64 (T / 86400 + 719162) (by omega) (by omega)]
    have m1 := Int.emod_nonneg T (show (86400 : Int) ≠ 0 by omega)
    rw [Int.tdiv_eq_ediv_of_nonneg m1, Int.tdiv_eq_ediv_of_nonneg m1, w64 (T % 86400 / 3600) (by omega) (by omega), w64 (T % 86400 / 60) (by omega) (by omega), Int.tmod_eq_emod_of_nonneg (by omega), p2 k (by omega)]
end Go.Proofs.YtjlchnmpebdggaaDoor.Mo
end
section
namespace Go.Proofs.YtjlchnmpebdggaaDoor.Mo
open Go.RowKit Go.Proofs.YtjlchnmpebdggaaDoorW.PrintWords
theorem orderV_laws (U V : Bool) (X Y : Int) : (orderV U V X Y = -1 ∨ orderV U V X Y = 0 ∨ orderV U V X Y = 1) ∧ orderV V U Y X = -orderV U V X Y := by
  cases U <;> cases V <;> simp [orderV] <;> constructor <;> (repeat' split) <;> omega
theorem orderV_trans (U V W : Bool) (X Y Z : Int) : ¬ (orderV U V X Y ≤ 0 ∧ orderV V W Y Z ≤ 0 ∧ 0 < orderV U W X Z) ∧ ¬ (orderV U V X Y < 0 ∧ orderV V W Y Z ≤ 0 ∧ 0 ≤ orderV U W X Z) ∧ ¬ (orderV U V X Y = 0 ∧ orderV V W Y Z < 0 ∧ 0 ≤ orderV U W X Z) := by
  cases U <;> cases V <;> cases W <;> simp [orderV] <;> (repeat' split) <;> omega
theorem orderP_same {y m d h mi s z y' m' d' h' mi' s' z' : Int} (hv : validB y m d h mi s z = true) (hv' : validB y' m' d' h' mi' s' z' = true) (e : stampP y m d h mi s z = stampP y' m' d' h' mi' s' z') : orderP y m d h mi s z y' m' d' h' mi' s' z' = 0 := by
  unfold orderP
  rw [hv, hv', e]
  simp [orderV]
set_option maxHeartbeats 8000000 in
set_option maxRecDepth 100000 in
theorem ordered_calls (y m d h mi s z y' m' d' h' mi' s' z' y'' m'' d'' h'' mi'' s'' z'' stamp x0 y0 : Int) (w : World) (hL : Laid w) :
    Calls Tryd.prog 14 #[.agg #[.int .i64 y, .int .i64 m, .int .i64 d, .int .i64 h, .int .i64 mi, .int .i64 s, .int .i64 z], .agg #[.int .i64 y', .int .i64 m', .int .i64 d', .int .i64 h', .int .i64 mi', .int .i64 s', .int .i64 z'], .agg #[.int .i64 y'', .int .i64 m'', .int .i64 d'', .int .i64 h'', .int .i64 mi'', .int .i64 s'', .int .i64 z''], .int .i64 stamp, .int .i64 x0, .int .i64 y0] w fun e w' => e = .returned (.bool true) ∧ Below w.heap.size w w' := by
  have HL := Lib.hid hL
  clear hL
  have H1 := Lib.hid (order_f 30000 (by omega) y m d h mi s z y' m' d' h' mi' s' z')
  have H2 := Lib.hid (order_f 30000 (by omega) y' m' d' h' mi' s' z' y'' m'' d'' h'' mi'' s'' z'')
  have H3 := Lib.hid (order_f 30000 (by omega) y m d h mi s z y'' m'' d'' h'' mi'' s'' z'')
  have H4 := Lib.hid (order_f 30000 (by omega) y' m' d' h' mi' s' z' y m d h mi s z)
  have hl1 := orderV_laws (validB y m d h mi s z) (validB y' m' d' h' mi' s' z') (stampP y m d h mi s z) (stampP y' m' d' h' mi' s' z')
  have hl2 := orderV_laws (validB y' m' d' h' mi' s' z') (validB y'' m'' d'' h'' mi'' s'' z'') (stampP y' m' d' h' mi' s' z') (stampP y'' m'' d'' h'' mi'' s'' z'')
  have hl3 := orderV_laws (validB y m d h mi s z) (validB y'' m'' d'' h'' mi'' s'' z'') (stampP y m d h mi s z) (stampP y'' m'' d'' h'' mi'' s'' z'')
  have ht := orderV_trans (validB y m d h mi s z) (validB y' m' d' h' mi' s' z') (validB y'' m'' d'' h'' mi'' s'' z'') (stampP y m d h mi s z) (stampP y' m' d' h' mi' s' z') (stampP y'' m'' d'' h'' mi'' s'' z'')
  have hab : orderP y m d h mi s z y' m' d' h' mi' s' z' = orderV (validB y m d h mi s z) (validB y' m' d' h' mi' s' z') (stampP y m d h mi s z) (stampP y' m' d' h' mi' s' z') := rfl
  have hbc : orderP y' m' d' h' mi' s' z' y'' m'' d'' h'' mi'' s'' z'' = orderV (validB y' m' d' h' mi' s' z') (validB y'' m'' d'' h'' mi'' s'' z'') (stampP y' m' d' h' mi' s' z') (stampP y'' m'' d'' h'' mi'' s'' z'') := rfl
  have hac : orderP y m d h mi s z y'' m'' d'' h'' mi'' s'' z'' = orderV (validB y m d h mi s z) (validB y'' m'' d'' h'' mi'' s'' z'') (stampP y m d h mi s z) (stampP y'' m'' d'' h'' mi'' s'' z'') := rfl
  have hba : orderP y' m' d' h' mi' s' z' y m d h mi s z = orderV (validB y' m' d' h' mi' s' z') (validB y m d h mi s z) (stampP y' m' d' h' mi' s' z') (stampP y m d h mi s z) := rfl
  rw [← hab, ← hba] at hl1
  rw [← hbc] at hl2
  rw [← hac] at hl3
  rw [← hab, ← hbc, ← hac] at ht
  generalize orderP y m d h mi s z y' m' d' h' mi' s' z' = X at *
  generalize orderP y' m' d' h' mi' s' z' y'' m'' d'' h'' mi'' s'' z'' = Y at *
  generalize orderP y m d h mi s z y'' m'' d'' h'' mi'' s'' z'' = Z at *
  generalize orderP y' m' d' h' mi' s' z' y m d h mi s z = U at *
  replace hl2 := hl2.1
  replace hl3 := hl3.1
  have hcase : (X = -1 ∨ X = 0 ∨ X = 1) ∧ (Y = -1 ∨ Y = 0 ∨ Y = 1) ∧ (Z = -1 ∨ Z = 0 ∨ Z = 1) ∧ U = -X ∧ ¬ (X ≤ 0 ∧ Y ≤ 0 ∧ 0 < Z) ∧ ¬ (X < 0 ∧ Y ≤ 0 ∧ 0 ≤ Z) ∧ ¬ (X = 0 ∧ Y < 0 ∧ 0 ≤ Z) := ⟨hl1.1, hl2, hl3, hl1.2, ht⟩
  have HCASE := Lib.hid hcase
  clear hl1 hl2 hl3 ht hab hbc hac hba hcase
  obtain ⟨⟨p1, p2, p3, p4, p5, p6, p7, p8⟩, hs1, h1, _⟩ := at_both stamp x0
  obtain ⟨⟨q1, q2, q3, q4, q5, q6, q7, q8⟩, hs2, h2, _⟩ := at_both stamp y0
  have HS1 := Lib.hid hs1
  have HS2 := Lib.hid hs2
  have HP := Lib.hid (h1 30000 (by omega))
  have HQ := Lib.hid (h2 30000 (by omega))
  clear hs1 hs2 h1 h2
  have e1 : (w.alloc (.cells #[.int .i64 y, .int .i64 m, .int .i64 d, .int .i64 h, .int .i64 mi, .int .i64 s, .int .i64 z] 23)).heap.size = w.heap.size + 1 := by simp
  have e2 : ((w.alloc (.cells #[.int .i64 y, .int .i64 m, .int .i64 d, .int .i64 h, .int .i64 mi, .int .i64 s, .int .i64 z] 23)).alloc (.cells #[.int .i64 y', .int .i64 m', .int .i64 d', .int .i64 h', .int .i64 mi', .int .i64 s', .int .i64 z'] 23)).heap.size = w.heap.size + 2 := by simp
  have HB := Lib.hid (below_alloc (below_alloc (below_alloc (Below.refl _ w) (.cells #[.int .i64 y, .int .i64 m, .int .i64 d, .int .i64 h, .int .i64 mi, .int .i64 s, .int .i64 z] 23)) (.cells #[.int .i64 y', .int .i64 m', .int .i64 d', .int .i64 h', .int .i64 mi', .int .i64 s', .int .i64 z'] 23)) (.cells #[.int .i64 y'', .int .i64 m'', .int .i64 d'', .int .i64 h'', .int .i64 mi'', .int .i64 s'', .int .i64 z''] 23))
  have a1 := heap_alloc_new w (.cells #[.int .i64 y, .int .i64 m, .int .i64 d, .int .i64 h, .int .i64 mi, .int .i64 s, .int .i64 z] 23)
  have a2 := (Below.heap_alloc (w.alloc (.cells #[.int .i64 y, .int .i64 m, .int .i64 d, .int .i64 h, .int .i64 mi, .int .i64 s, .int .i64 z] 23)) (.cells #[.int .i64 y', .int .i64 m', .int .i64 d', .int .i64 h', .int .i64 mi', .int .i64 s', .int .i64 z'] 23) _ (blk_lt a1)).trans a1
  have a3 := (Below.heap_alloc ((w.alloc (.cells #[.int .i64 y, .int .i64 m, .int .i64 d, .int .i64 h, .int .i64 mi, .int .i64 s, .int .i64 z] 23)).alloc (.cells #[.int .i64 y', .int .i64 m', .int .i64 d', .int .i64 h', .int .i64 mi', .int .i64 s', .int .i64 z'] 23)) (.cells #[.int .i64 y'', .int .i64 m'', .int .i64 d'', .int .i64 h'', .int .i64 mi'', .int .i64 s'', .int .i64 z''] 23) _ (blk_lt a2)).trans a2
  have b1 := heap_alloc_new (w.alloc (.cells #[.int .i64 y, .int .i64 m, .int .i64 d, .int .i64 h, .int .i64 mi, .int .i64 s, .int .i64 z] 23)) (.cells #[.int .i64 y', .int .i64 m', .int .i64 d', .int .i64 h', .int .i64 mi', .int .i64 s', .int .i64 z'] 23)
  rw [e1] at b1
  have b2 := (Below.heap_alloc ((w.alloc (.cells #[.int .i64 y, .int .i64 m, .int .i64 d, .int .i64 h, .int .i64 mi, .int .i64 s, .int .i64 z] 23)).alloc (.cells #[.int .i64 y', .int .i64 m', .int .i64 d', .int .i64 h', .int .i64 mi', .int .i64 s', .int .i64 z'] 23)) (.cells #[.int .i64 y'', .int .i64 m'', .int .i64 d'', .int .i64 h'', .int .i64 mi'', .int .i64 s'', .int .i64 z''] 23) _ (blk_lt b1)).trans b1
  have c1 := heap_alloc_new ((w.alloc (.cells #[.int .i64 y, .int .i64 m, .int .i64 d, .int .i64 h, .int .i64 mi, .int .i64 s, .int .i64 z] 23)).alloc (.cells #[.int .i64 y', .int .i64 m', .int .i64 d', .int .i64 h', .int .i64 mi', .int .i64 s', .int .i64 z'] 23)) (.cells #[.int .i64 y'', .int .i64 m'', .int .i64 d'', .int .i64 h'', .int .i64 mi'', .int .i64 s'', .int .i64 z''] 23)
  rw [e2] at c1
  have HA := Lib.hid a3
  have HX := Lib.hid b2
  have HY := Lib.hid c1
  clear a1 a2 a3 b1 b2 c1 e1 e2
  go_enter Tryd.func14, Tryd.ntmps14
  go_wp2_with fail
  refine (known_calls _ (laid_below HL.out (by repeat (first | (with_reducible exact HB.out) | (with_reducible apply below_drew) | (with_reducible apply pw_below_drewN) | exact HB.out)))).mono ?_
  rintro e w1 ⟨rfl, hb⟩
  have n0_ := Lib.hid (below_step (by repeat (first | (with_reducible exact HB.out) | (with_reducible apply below_drew) | (with_reducible apply pw_below_drewN) | exact HB.out)) hb)
  clear HB
  have HB := n0_
  clear n0_
  have n0_ := Lib.hid ((hb.block _ (blk_lt HA.out)).trans HA.out)
  clear HA
  have HA := n0_
  clear n0_
  have n0_ := Lib.hid ((hb.block _ (blk_lt HX.out)).trans HX.out)
  clear HX
  have HX := n0_
  clear n0_
  have n0_ := Lib.hid ((hb.block _ (blk_lt HY.out)).trans HY.out)
  clear HY
  have HY := n0_
  clear n0_
  clear hb
  obtain ⟨⟨k0, k1, k2, k3, k4, k5, k6⟩, _⟩ := cells7 HA.out
  obtain ⟨⟨l0, l1, l2, l3, l4, l5, l6⟩, _⟩ := cells7 HX.out
  go_wp2_with fail
  clear k0 k1 k2 k3 k4 k5 k6
  clear l0 l1 l2 l3 l4 l5 l6
  refine (moment_Order.calls 30000 y m d h mi s z y' m' d' h' mi' s' z' X _ H1.out (laid_below HL.out (by repeat (first | (with_reducible exact HB.out) | (with_reducible apply below_drew) | (with_reducible apply pw_below_drewN) | exact HB.out)))).mono ?_
  rintro e w2 ⟨rfl, hb⟩
  have n0_ := Lib.hid (below_step (by repeat (first | (with_reducible exact HB.out) | (with_reducible apply below_drew) | (with_reducible apply pw_below_drewN) | exact HB.out)) hb)
  clear HB
  have HB := n0_
  clear n0_
  have n0_ := Lib.hid ((hb.block _ (blk_lt HA.out)).trans HA.out)
  clear HA
  have HA := n0_
  clear n0_
  have n0_ := Lib.hid ((hb.block _ (blk_lt HX.out)).trans HX.out)
  clear HX
  have HX := n0_
  clear n0_
  have n0_ := Lib.hid ((hb.block _ (blk_lt HY.out)).trans HY.out)
  clear HY
  have HY := n0_
  clear n0_
  clear hb
  obtain ⟨⟨k0, k1, k2, k3, k4, k5, k6⟩, _⟩ := cells7 HX.out
  obtain ⟨⟨l0, l1, l2, l3, l4, l5, l6⟩, _⟩ := cells7 HY.out
  go_wp2_with fail
  clear k0 k1 k2 k3 k4 k5 k6
  clear l0 l1 l2 l3 l4 l5 l6
  refine (moment_Order.calls 30000 y' m' d' h' mi' s' z' y'' m'' d'' h'' mi'' s'' z'' Y _ H2.out (laid_below HL.out (by repeat (first | (with_reducible exact HB.out) | (with_reducible apply below_drew) | (with_reducible apply pw_below_drewN) | exact HB.out)))).mono ?_
  rintro e w3 ⟨rfl, hb⟩
  have n0_ := Lib.hid (below_step (by repeat (first | (with_reducible exact HB.out) | (with_reducible apply below_drew) | (with_reducible apply pw_below_drewN) | exact HB.out)) hb)
  clear HB
  have HB := n0_
  clear n0_
  have n0_ := Lib.hid ((hb.block _ (blk_lt HA.out)).trans HA.out)
  clear HA
  have HA := n0_
  clear n0_
  have n0_ := Lib.hid ((hb.block _ (blk_lt HX.out)).trans HX.out)
  clear HX
  have HX := n0_
  clear n0_
  have n0_ := Lib.hid ((hb.block _ (blk_lt HY.out)).trans HY.out)
  clear HY
  have HY := n0_
  clear n0_
  clear hb
  obtain ⟨⟨k0, k1, k2, k3, k4, k5, k6⟩, _⟩ := cells7 HA.out
  obtain ⟨⟨l0, l1, l2, l3, l4, l5, l6⟩, _⟩ := cells7 HY.out
  go_wp2_with fail
  clear k0 k1 k2 k3 k4 k5 k6
  clear l0 l1 l2 l3 l4 l5 l6
  refine (moment_Order.calls 30000 y m d h mi s z y'' m'' d'' h'' mi'' s'' z'' Z _ H3.out (laid_below HL.out (by repeat (first | (with_reducible exact HB.out) | (with_reducible apply below_drew) | (with_reducible apply pw_below_drewN) | exact HB.out)))).mono ?_
  rintro e w4 ⟨rfl, hb⟩
  have n0_ := Lib.hid (below_step (by repeat (first | (with_reducible exact HB.out) | (with_reducible apply below_drew) | (with_reducible apply pw_below_drewN) | exact HB.out)) hb)
  clear HB
  have HB := n0_
  clear n0_
  have n0_ := Lib.hid ((hb.block _ (blk_lt HA.out)).trans HA.out)
  clear HA
  have HA := n0_
  clear n0_
  have n0_ := Lib.hid ((hb.block _ (blk_lt HX.out)).trans HX.out)
  clear HX
  have HX := n0_
  clear n0_
  have n0_ := Lib.hid ((hb.block _ (blk_lt HY.out)).trans HY.out)
  clear HY
  have HY := n0_
  clear n0_
  clear hb
  go_upto_region 6 with fail
  go_cut [80] (fun v80 wc => v80 = .bool false ∧ Aside0 (Below w.heap.size w wc))
  case first =>
    obtain ⟨⟨k0, k1, k2, k3, k4, k5, k6⟩, _⟩ := cells7 HX.out
    obtain ⟨⟨l0, l1, l2, l3, l4, l5, l6⟩, _⟩ := cells7 HA.out
    go_wp2_with fail
    clear k0 k1 k2 k3 k4 k5 k6
    clear l0 l1 l2 l3 l4 l5 l6
    refine (moment_Order.calls 30000 y' m' d' h' mi' s' z' y m d h mi s z U _ H4.out (laid_below HL.out (by repeat (first | (with_reducible exact HB.out) | (with_reducible apply below_drew) | (with_reducible apply pw_below_drewN) | exact HB.out)))).mono ?_
    rintro e w5 ⟨rfl, hb⟩
    have n0_ := Lib.hid (below_step (by repeat (first | (with_reducible exact HB.out) | (with_reducible apply below_drew) | (with_reducible apply pw_below_drewN) | exact HB.out)) hb)
    clear HB
    have HB := n0_
    clear n0_
    clear hb
    obtain ⟨hx, hy, hz, rfl, t1, t2, t3⟩ := HCASE.out
    clear HCASE H1 H2 H3 H4 HA HX HY HP HQ HS1 HS2 HL
    rcases hx with rfl | rfl | rfl <;> rcases hy with rfl | rfl | rfl <;> rcases hz with rfl | rfl | rfl <;> first | (exfalso; omega) | (clear t1 t2 t3; go_wp2; go_meet; exact ⟨rfl, ⟨HB.out⟩⟩)
  case rest =>
    obtain ⟨rfl, HB⟩ := hcut
    clear HA HX HY H1 H2 H3 H4 HCASE
    go_wp2_with fail
    refine (moment_At.calls 30000 stamp x0 p1 p2 p3 p4 p5 p6 p7 p8 _ HP.out (laid_below HL.out (by repeat (first | (with_reducible exact HB.out) | (with_reducible apply below_drew) | (with_reducible apply pw_below_drewN) | exact HB.out)))).mono ?_
    rintro e w6 ⟨rfl, hb⟩
    have n0_ := Lib.hid (below_step (by repeat (first | (with_reducible exact HB.out) | (with_reducible apply below_drew) | (with_reducible apply pw_below_drewN) | exact HB.out)) hb)
    clear HB
    have HB := n0_
    clear n0_
    clear hb
    go_wp2_with fail
    have n1_ := Lib.hid (heap_alloc_new w6 (.cells #[.int .i64 p1, .int .i64 p2, .int .i64 p3, .int .i64 p4, .int .i64 p5, .int .i64 p6, .int .i64 p7] 23))
    have HA := n1_
    clear n1_
    have n0_ := Lib.hid (below_alloc HB.out (.cells #[.int .i64 p1, .int .i64 p2, .int .i64 p3, .int .i64 p4, .int .i64 p5, .int .i64 p6, .int .i64 p7] 23))
    clear HB
    have HB := n0_
    clear n0_
    generalize w6.alloc (.cells #[.int .i64 p1, .int .i64 p2, .int .i64 p3, .int .i64 p4, .int .i64 p5, .int .i64 p6, .int .i64 p7] 23) = w7 at *
    refine (moment_At.calls 30000 stamp y0 q1 q2 q3 q4 q5 q6 q7 q8 _ HQ.out (laid_below HL.out (by repeat (first | (with_reducible exact HB.out) | (with_reducible apply below_drew) | (with_reducible apply pw_below_drewN) | exact HB.out)))).mono ?_
    rintro e w8 ⟨rfl, hb⟩
    have n0_ := Lib.hid (below_step (by repeat (first | (with_reducible exact HB.out) | (with_reducible apply below_drew) | (with_reducible apply pw_below_drewN) | exact HB.out)) hb)
    clear HB
    have HB := n0_
    clear n0_
    have n0_ := Lib.hid ((hb.block _ (blk_lt HA.out)).trans HA.out)
    clear HA
    have HA := n0_
    clear n0_
    clear hb
    go_upto_region 10 with fail
    have n1_ := Lib.hid (heap_alloc_new w8 (.cells #[.int .i64 q1, .int .i64 q2, .int .i64 q3, .int .i64 q4, .int .i64 q5, .int .i64 q6, .int .i64 q7] 23))
    have n0_ := Lib.hid ((Below.heap_alloc w8 (.cells #[.int .i64 q1, .int .i64 q2, .int .i64 q3, .int .i64 q4, .int .i64 q5, .int .i64 q6, .int .i64 q7] 23) _ (blk_lt HA.out)).trans HA.out)
    clear HA
    have HA := n0_
    clear n0_
    have HX := n1_
    clear n1_
    have n0_ := Lib.hid (below_alloc HB.out (.cells #[.int .i64 q1, .int .i64 q2, .int .i64 q3, .int .i64 q4, .int .i64 q5, .int .i64 q6, .int .i64 q7] 23))
    clear HB
    have HB := n0_
    clear n0_
    generalize w8.alloc (.cells #[.int .i64 q1, .int .i64 q2, .int .i64 q3, .int .i64 q4, .int .i64 q5, .int .i64 q6, .int .i64 q7] 23) = w9 at *
    generalize w6.heap.size = g1 at *
    generalize w8.heap.size = g2 at *
    rcases HS1.out with ⟨_, he⟩ | ⟨_, _, he⟩ | ⟨_, _, y1, m1, d1, h1, mi1, s1, he, hv1, hst1⟩
    · skip
      simp only [Prod.mk.injEq] at he
      obtain ⟨rfl, rfl, rfl, rfl, rfl, rfl, rfl, rfl⟩ := he
      clear HA HX HP HQ HS1 HS2 HL
      go_wp2
      go_ret
      exact ⟨rfl, HB.out⟩
    · skip
      simp only [Prod.mk.injEq] at he
      obtain ⟨rfl, rfl, rfl, rfl, rfl, rfl, rfl, rfl⟩ := he
      clear HA HX HP HQ HS1 HS2 HL
      go_wp2
      go_ret
      exact ⟨rfl, HB.out⟩
    · skip
      simp only [Prod.mk.injEq] at he
      obtain ⟨rfl, rfl, rfl, rfl, rfl, rfl, rfl, rfl⟩ := he
      rcases HS2.out with ⟨_, he⟩ | ⟨_, _, he⟩ | ⟨_, _, y2, m2, d2, h2, mi2, s2, he, hv2, hst2⟩
      · skip
        simp only [Prod.mk.injEq] at he
        obtain ⟨rfl, rfl, rfl, rfl, rfl, rfl, rfl, rfl⟩ := he
        clear HA HX HP HQ HS1 HS2 HL
        go_wp2
        go_ret
        exact ⟨rfl, HB.out⟩
      · skip
        simp only [Prod.mk.injEq] at he
        obtain ⟨rfl, rfl, rfl, rfl, rfl, rfl, rfl, rfl⟩ := he
        clear HA HX HP HQ HS1 HS2 HL
        go_wp2
        go_ret
        exact ⟨rfl, HB.out⟩
      · skip
        simp only [Prod.mk.injEq] at he
        obtain ⟨rfl, rfl, rfl, rfl, rfl, rfl, rfl, rfl⟩ := he
        have G1 := Lib.hid (order_f 30000 (by omega) p1 p2 p3 p4 p5 p6 p7 q1 q2 q3 q4 q5 q6 q7)
        rw [orderP_same hv1 hv2 (hst1.trans hst2.symm)] at G1
        have G2 := Lib.hid (stamp_f 30000 (by omega) p1 p2 p3 p4 p5 p6 p7)
        rw [hst1] at G2
        have G3 := Lib.hid (stamp_f 30000 (by omega) q1 q2 q3 q4 q5 q6 q7)
        rw [hst2] at G3
        clear HS1 HS2 HP HQ hst1 hst2 hv1 hv2
        obtain ⟨⟨k0, k1, k2, k3, k4, k5, k6⟩, _⟩ := cells7 HA.out
        obtain ⟨⟨k7, k8, k9, k10, k11, k12, k13⟩, _⟩ := cells7 HX.out
        go_upto_region 12 with fail
        go_region_held3 (fun w' => w'.cell? ⟨g1, 0, none⟩ = some (.int .i64 p1) ∧ w'.cell? ⟨g1, 1, none⟩ = some (.int .i64 p2) ∧ w'.cell? ⟨g1, 2, none⟩ = some (.int .i64 p3) ∧ w'.cell? ⟨g1, 3, none⟩ = some (.int .i64 p4) ∧ w'.cell? ⟨g1, 4, none⟩ = some (.int .i64 p5) ∧ w'.cell? ⟨g1, 5, none⟩ = some (.int .i64 p6) ∧ w'.cell? ⟨g1, 6, none⟩ = some (.int .i64 p7) ∧ w'.cell? ⟨g2, 0, none⟩ = some (.int .i64 q1) ∧ w'.cell? ⟨g2, 1, none⟩ = some (.int .i64 q2) ∧ w'.cell? ⟨g2, 2, none⟩ = some (.int .i64 q3) ∧ w'.cell? ⟨g2, 3, none⟩ = some (.int .i64 q4) ∧ w'.cell? ⟨g2, 4, none⟩ = some (.int .i64 q5) ∧ w'.cell? ⟨g2, 5, none⟩ = some (.int .i64 q6) ∧ w'.cell? ⟨g2, 6, none⟩ = some (.int .i64 q7)) (go_keep) ((first | (go_at_call 33; (with_reducible refine (moment_Order.calls 30000 p1 p2 p3 p4 p5 p6 p7 q1 q2 q3 q4 q5 q6 q7 0 _ G1.out (laid_below HL.out (by repeat (first | (with_reducible exact HB.out) | (with_reducible apply below_drew) | (with_reducible apply pw_below_drewN) | exact HB.out)))).mono ?_); rintro e w33 ⟨rfl, hb⟩; have n0_ := Lib.hid (below_step (by repeat (first | (with_reducible exact HB.out) | (with_reducible apply below_drew) | (with_reducible apply pw_below_drewN) | exact HB.out)) hb); clear HB; have HB := n0_; clear n0_; have k0 := pw_cell_below hb (a := ⟨g1, 0, none⟩) (v := .int .i64 p1) (by first | assumption | go_simp); have k1 := pw_cell_below hb (a := ⟨g1, 1, none⟩) (v := .int .i64 p2) (by first | assumption | go_simp); have k2 := pw_cell_below hb (a := ⟨g1, 2, none⟩) (v := .int .i64 p3) (by first | assumption | go_simp); have k3 := pw_cell_below hb (a := ⟨g1, 3, none⟩) (v := .int .i64 p4) (by first | assumption | go_simp); have k4 := pw_cell_below hb (a := ⟨g1, 4, none⟩) (v := .int .i64 p5) (by first | assumption | go_simp); have k5 := pw_cell_below hb (a := ⟨g1, 5, none⟩) (v := .int .i64 p6) (by first | assumption | go_simp); have k6 := pw_cell_below hb (a := ⟨g1, 6, none⟩) (v := .int .i64 p7) (by first | assumption | go_simp); have k7 := pw_cell_below hb (a := ⟨g2, 0, none⟩) (v := .int .i64 q1) (by first | assumption | go_simp); have k8 := pw_cell_below hb (a := ⟨g2, 1, none⟩) (v := .int .i64 q2) (by first | assumption | go_simp); have k9 := pw_cell_below hb (a := ⟨g2, 2, none⟩) (v := .int .i64 q3) (by first | assumption | go_simp); have k10 := pw_cell_below hb (a := ⟨g2, 3, none⟩) (v := .int .i64 q4) (by first | assumption | go_simp); have k11 := pw_cell_below hb (a := ⟨g2, 4, none⟩) (v := .int .i64 q5) (by first | assumption | go_simp); have k12 := pw_cell_below hb (a := ⟨g2, 5, none⟩) (v := .int .i64 q6) (by first | assumption | go_simp); have k13 := pw_cell_below hb (a := ⟨g2, 6, none⟩) (v := .int .i64 q7) (by first | assumption | go_simp); clear hb) | (go_at_call 22; (with_reducible refine (moment_Stamp.calls 30000 p1 p2 p3 p4 p5 p6 p7 stamp _ G2.out (laid_below HL.out (by repeat (first | (with_reducible exact HB.out) | (with_reducible apply below_drew) | (with_reducible apply pw_below_drewN) | exact HB.out)))).mono ?_); rintro e w22 ⟨rfl, hb⟩; have n0_ := Lib.hid (below_step (by repeat (first | (with_reducible exact HB.out) | (with_reducible apply below_drew) | (with_reducible apply pw_below_drewN) | exact HB.out)) hb); clear HB; have HB := n0_; clear n0_; have k0 := pw_cell_below hb (a := ⟨g1, 0, none⟩) (v := .int .i64 p1) (by first | assumption | go_simp); have k1 := pw_cell_below hb (a := ⟨g1, 1, none⟩) (v := .int .i64 p2) (by first | assumption | go_simp); have k2 := pw_cell_below hb (a := ⟨g1, 2, none⟩) (v := .int .i64 p3) (by first | assumption | go_simp); have k3 := pw_cell_below hb (a := ⟨g1, 3, none⟩) (v := .int .i64 p4) (by first | assumption | go_simp); have k4 := pw_cell_below hb (a := ⟨g1, 4, none⟩) (v := .int .i64 p5) (by first | assumption | go_simp); have k5 := pw_cell_below hb (a := ⟨g1, 5, none⟩) (v := .int .i64 p6) (by first | assumption | go_simp); have k6 := pw_cell_below hb (a := ⟨g1, 6, none⟩) (v := .int .i64 p7) (by first | assumption | go_simp); have k7 := pw_cell_below hb (a := ⟨g2, 0, none⟩) (v := .int .i64 q1) (by first | assumption | go_simp); have k8 := pw_cell_below hb (a := ⟨g2, 1, none⟩) (v := .int .i64 q2) (by first | assumption | go_simp); have k9 := pw_cell_below hb (a := ⟨g2, 2, none⟩) (v := .int .i64 q3) (by first | assumption | go_simp); have k10 := pw_cell_below hb (a := ⟨g2, 3, none⟩) (v := .int .i64 q4) (by first | assumption | go_simp); have k11 := pw_cell_below hb (a := ⟨g2, 4, none⟩) (v := .int .i64 q5) (by first | assumption | go_simp); have k12 := pw_cell_below hb (a := ⟨g2, 5, none⟩) (v := .int .i64 q6) (by first | assumption | go_simp); have k13 := pw_cell_below hb (a := ⟨g2, 6, none⟩) (v := .int .i64 q7) (by first | assumption | go_simp); clear hb) | (go_at_call 22; (with_reducible refine (moment_Stamp.calls 30000 q1 q2 q3 q4 q5 q6 q7 stamp _ G3.out (laid_below HL.out (by repeat (first | (with_reducible exact HB.out) | (with_reducible apply below_drew) | (with_reducible apply pw_below_drewN) | exact HB.out)))).mono ?_); rintro e w22 ⟨rfl, hb⟩; have n0_ := Lib.hid (below_step (by repeat (first | (with_reducible exact HB.out) | (with_reducible apply below_drew) | (with_reducible apply pw_below_drewN) | exact HB.out)) hb); clear HB; have HB := n0_; clear n0_; have k0 := pw_cell_below hb (a := ⟨g1, 0, none⟩) (v := .int .i64 p1) (by first | assumption | go_simp); have k1 := pw_cell_below hb (a := ⟨g1, 1, none⟩) (v := .int .i64 p2) (by first | assumption | go_simp); have k2 := pw_cell_below hb (a := ⟨g1, 2, none⟩) (v := .int .i64 p3) (by first | assumption | go_simp); have k3 := pw_cell_below hb (a := ⟨g1, 3, none⟩) (v := .int .i64 p4) (by first | assumption | go_simp); have k4 := pw_cell_below hb (a := ⟨g1, 4, none⟩) (v := .int .i64 p5) (by first | assumption | go_simp); have k5 := pw_cell_below hb (a := ⟨g1, 5, none⟩) (v := .int .i64 p6) (by first | assumption | go_simp); have k6 := pw_cell_below hb (a := ⟨g1, 6, none⟩) (v := .int .i64 p7) (by first | assumption | go_simp); have k7 := pw_cell_below hb (a := ⟨g2, 0, none⟩) (v := .int .i64 q1) (by first | assumption | go_simp); have k8 := pw_cell_below hb (a := ⟨g2, 1, none⟩) (v := .int .i64 q2) (by first | assumption | go_simp); have k9 := pw_cell_below hb (a := ⟨g2, 2, none⟩) (v := .int .i64 q3) (by first | assumption | go_simp); have k10 := pw_cell_below hb (a := ⟨g2, 3, none⟩) (v := .int .i64 q4) (by first | assumption | go_simp); have k11 := pw_cell_below hb (a := ⟨g2, 4, none⟩) (v := .int .i64 q5) (by first | assumption | go_simp); have k12 := pw_cell_below hb (a := ⟨g2, 5, none⟩) (v := .int .i64 q6) (by first | assumption | go_simp); have k13 := pw_cell_below hb (a := ⟨g2, 6, none⟩) (v := .int .i64 q7) (by first | assumption | go_simp); clear hb)))
        all_goals go_wp2
        all_goals go_ret
        all_goals exact ⟨rfl, HB.out⟩
def postbaglaw2_MomentOrdered.f (_ _ _ _ _ _ _ _ _ _ _ _ _ _ _ _ _ _ _ _ _ _ _ _ : Int) : Option Bool := some true
theorem postbaglaw2_MomentOrdered.calls (a0_0 a0_1 a0_2 a0_3 a0_4 a0_5 a0_6 a1_0 a1_1 a1_2 a1_3 a1_4 a1_5 a1_6 a2_0 a2_1 a2_2 a2_3 a2_4 a2_5 a2_6 a3 a4 a5 : Int) (r : Bool) (w : World) (h : postbaglaw2_MomentOrdered.f a0_0 a0_1 a0_2 a0_3 a0_4 a0_5 a0_6 a1_0 a1_1 a1_2 a1_3 a1_4 a1_5 a1_6 a2_0 a2_1 a2_2 a2_3 a2_4 a2_5 a2_6 a3 a4 a5 = some r) (hL : Laid w) :
    Calls Tryd.prog 14 #[.agg #[.int .i64 a0_0, .int .i64 a0_1, .int .i64 a0_2, .int .i64 a0_3, .int .i64 a0_4, .int .i64 a0_5, .int .i64 a0_6], .agg #[.int .i64 a1_0, .int .i64 a1_1, .int .i64 a1_2, .int .i64 a1_3, .int .i64 a1_4, .int .i64 a1_5, .int .i64 a1_6], .agg #[.int .i64 a2_0, .int .i64 a2_1, .int .i64 a2_2, .int .i64 a2_3, .int .i64 a2_4, .int .i64 a2_5, .int .i64 a2_6], .int .i64 a3, .int .i64 a4, .int .i64 a5] w fun e w' => e = .returned (.bool r) ∧ Below w.heap.size w w' := by
  obtain rfl : true = r := Option.some.inj h
  exact ordered_calls _ _ _ _ _ _ _ _ _ _ _ _ _ _ _ _ _ _ _ _ _ _ _ _ w hL
end Go.Proofs.YtjlchnmpebdggaaDoor.Mo
end
section
namespace Go.Proofs.YtjlchnmpebdggaaDoor.Pure
open Go.Proofs.YtjlchnmpebdggaaDoor.Mo
theorem MomentOrdered (x y z : S23) (a b c : Int) {P Q R S T U : Prop} (_ : P) (_ : Q) (_ : R) (_ : S) (_ : T) (_ : U) : postbaglaw2_MomentOrdered.f x.f0 x.f1 x.f2 x.f3 x.f4 x.f5 x.f6 y.f0 y.f1 y.f2 y.f3 y.f4 y.f5 y.f6 z.f0 z.f1 z.f2 z.f3 z.f4 z.f5 z.f6 a b c = some true := rfl
end Go.Proofs.YtjlchnmpebdggaaDoor.Pure
end
section
namespace Go.Proofs.YtjlchnmpebdggaaDoor.Mo
open Go.ChangeShapes Go.WideShapes Go.ChangeAt Go.RowKit
theorem gLengths : Tryd.prog.globalNamed "postbag/moment.lengths" = some 0 := by kernel_rfl
theorem tLengths : (Tryd.prog.globals[0]?).map (·.type) = some 86 := by kernel_rfl
theorem door_met (os : Os) (args : Array Value) : laidMetH Tryd.prog [("postbag/moment.lengths", Rows.laid_postbag_moment_lengths)] ((World.doorLaid Tryd.prog 400 os).forCall (fun _ _ => 0) ⟨#[], args, []⟩).memory :=
  laidMetH_of_parts3 (fuel := 8) (laidMet_of_run' 8 (by kernel_rfl) (by kernel_rfl)) (by kernel_rfl) (by kernel_rfl)
theorem of_laid {W : World} (h : laidMetH Tryd.prog [("postbag/moment.lengths", Rows.laid_postbag_moment_lengths)] W) : Laid W := by
  rw [MakeChecks.laidMetH_plain _ _ _ (by kernel_rfl)] at h
  obtain ⟨ps, ⟨g1, t1, cs1, f1, p1, q1, hg1, ht1, hv1, hd1, _, _⟩, _, _⟩ := h
  obtain rfl := Option.some.inj (gLengths.symm.trans hg1)
  obtain rfl := Option.some.inj (tLengths.symm.trans ht1)
  obtain ⟨xs, m1, rfl, hx1, hlen, hn3, hel⟩ := DataW.trod_array Tryd.underlying86 hd1
  have c3 : Tryd.prog.cellsOf 3 = 1 := by kernel_rfl
  simp only [Prod.mk.injEq, Rows.laid_postbag_moment_lengths, DataW.agg.injEq] at hx1
  have hcell : ∀ j, j < 12 → W.cell? ⟨0, j, none⟩ = some (.int .i64 (monthDays.getD j 0)) := by
    intro j hj
    have hj1 : j < xs.length := by omega
    have he := hel j hj
    rw [List.getElem?_eq_getElem hj1] at he
    obtain ⟨k, e1, e2, _⟩ := DataW.trod_int Tryd.underlying3 he
    have e3 : (xs.map (·.1))[j]? = some (.lit (.int .i64 k)) := by rw [List.getElem?_map, List.getElem?_eq_getElem hj1, e2]; rfl
    rw [← hx1.1] at e3
    have hk : k = monthDays.getD j 0 := by
      have hc : j = 0 ∨ j = 1 ∨ j = 2 ∨ j = 3 ∨ j = 4 ∨ j = 5 ∨ j = 6 ∨ j = 7 ∨ j = 8 ∨ j = 9 ∨ j = 10 ∨ j = 11 := by omega
      rcases hc with rfl | rfl | rfl | rfl | rfl | rfl | rfl | rfl | rfl | rfl | rfl | rfl <;> (simp at e3; rw [← e3]; rfl)
    rw [World.var?_cell hg1 hv1 j]
    rw [c3, Nat.mul_one] at e1
    have e4 : (cs1.toList.drop j)[0]? = some (.int .i64 k) := by
      have := congrArg (fun l => l[0]?) e1
      simpa [List.getElem?_take] using this
    rw [List.getElem?_drop, Nat.add_zero, Array.getElem?_toList] at e4
    rw [e4, hk]
  refine ⟨?_, hcell⟩
  have := hcell 0 (by omega)
  exact World.block_lt_of_cell? W ⟨0, 0, none⟩ this
end Go.Proofs.YtjlchnmpebdggaaDoor.Mo
end
