import Derived.Test.YtjlchnmpebdggaaDoorHdr2
import Derived.Test.YtjlchnmpebdggaaDoorHdr4
import Derived.Test.YtjlchnmpebdggaaDoorHdr10
section
namespace Go.Proofs.YtjlchnmpebdggaaDoor.Mo
open Go.RowKit Go.Proofs.YtjlchnmpebdggaaDoorW.PrintWords Go.Proofs.YtjlchnmpebdggaaDoorW.PrintLast Go.Proofs.YtjlchnmpebdggaaDoorW.PrintMore
attribute [local go_sem] max2_int min2_int max_two min_two max_three min_three max_four min_four   -- for this text's walks alone
set_option linter.unusedVariables false
set_option linter.unusedSimpArgs false
def postbagref2_ending.j0 : Nat → List (S95) → Int → Int → Int → Int → Int → Int → Int → Int → Option (Int × Int × Int × Int × Int × Int × Int × Bool)
 | 0, _, _, _, _, _, _, _, _, _ => none
 | k + 1, x0, x1, x215000, x215001, x215002, x215003, x215004, x215005, x215006 => (postbagref2_is.f x0 x1 97).bind fun t219 => (if t219 = true then (if 0 ≤ x1 then (if x1 < (x0.length : Int) then ((postbagref2_letters.f k ((rd_T95 x0 x1).f1)).bind fun t221 => (some (x215000, x215001, x215002, x215003, x215004, x215005, t221, ((wrap64 (x1 + 1)) == (x0.length : Int))))) else (none)) else (none)) else ((postbagref2_is.f x0 x1 115).bind fun t222 => (if t222 = true then (if 0 ≤ x1 then (if x1 < (x0.length : Int) then ((postbagref2_zoned.f k ((rd_T95 x0 x1).f1)).bind fun bt224 => (if bt224.2 = true then (some (x215000, x215001, x215002, x215003, x215004, x215005, bt224.1, ((wrap64 (x1 + 1)) == (x0.length : Int)))) else (some (x215000, x215001, x215002, x215003, x215004, x215005, x215006, false)))) else (none)) else (none)) else (some (x215000, x215001, x215002, x215003, x215004, x215005, x215006, (x1 == (x0.length : Int)))))))
def postbagref2_ending.f (k : Nat) (l0 : List (S95)) (a1 : Int) (a2_0 : Int) (a2_1 : Int) (a2_2 : Int) (a2_3 : Int) (a2_4 : Int) (a2_5 : Int) (a2_6 : Int) : Option (Int × Int × Int × Int × Int × Int × Int × Bool) := (postbagref2_is.f l0 a1 58).bind fun t216 => (if t216 = true then ((postbagref2_small.f k l0 (wrap64 (a1 + 1)) 60).bind fun bt217 => (if bt217.2 = true then (if bt217.1 = 60 then (postbagref2_ending.j0 k l0 (wrap64 (a1 + 2)) a2_0 a2_1 a2_2 a2_3 a2_4 59 a2_6) else (postbagref2_ending.j0 k l0 (wrap64 (a1 + 2)) a2_0 a2_1 a2_2 a2_3 a2_4 bt217.1 a2_6)) else (some (a2_0, a2_1, a2_2, a2_3, a2_4, a2_5, a2_6, false)))) else (postbagref2_ending.j0 k l0 a1 a2_0 a2_1 a2_2 a2_3 a2_4 a2_5 a2_6))
set_option maxHeartbeats 8000000 in
set_option maxRecDepth 100000 in
theorem postbagref2_ending.calls (k : Nat) (A0 : Option Addr) (c0 : Nat) (l0 : List (S95)) (a1 : Int) (a2_0 : Int) (a2_1 : Int) (a2_2 : Int) (a2_3 : Int) (a2_4 : Int) (a2_5 : Int) (a2_6 : Int) (r1 : Int) (r2 : Int) (r3 : Int) (r4 : Int) (r5 : Int) (r6 : Int) (r7 : Int) (r8 : Bool) (w : World) (hr0 : Kd.C k95 w A0 l0.length l0) (hc0 : l0.length ≤ c0) (h : postbagref2_ending.f k l0 a1 a2_0 a2_1 a2_2 a2_3 a2_4 a2_5 a2_6 = some (r1, r2, r3, r4, r5, r6, r7, r8)) :
  Calls Tryd.prog 105 #[.slice A0 l0.length c0, .int .i64 a1, .agg #[.int .i64 a2_0, .int .i64 a2_1, .int .i64 a2_2, .int .i64 a2_3, .int .i64 a2_4, .int .i64 a2_5, .int .i64 a2_6]] w fun e w' => e = .returned (.tuple #[.agg #[.int .i64 r1, .int .i64 r2, .int .i64 r3, .int .i64 r4, .int .i64 r5, .int .i64 r6, .int .i64 r7], .bool r8]) ∧ Below w.heap.size w w' := by
 have hu23 := Tryd.underlying23
 have HR0 := Aside0.mk hr0
 have HC0 := Aside0.mk hc0
 clear hr0 hc0
 have HB := Aside0.mk (Below.refl w.heap.size w)
 have H : ((postbagref2_is.f l0 a1 58).bind fun t216 => (if t216 = true then ((postbagref2_small.f k l0 (wrap64 (a1 + 1)) 60).bind fun bt217 => (if bt217.2 = true then (if bt217.1 = 60 then (postbagref2_ending.j0 k l0 (wrap64 (a1 + 2)) a2_0 a2_1 a2_2 a2_3 a2_4 59 a2_6) else (postbagref2_ending.j0 k l0 (wrap64 (a1 + 2)) a2_0 a2_1 a2_2 a2_3 a2_4 bt217.1 a2_6)) else (some (a2_0, a2_1, a2_2, a2_3, a2_4, a2_5, a2_6, false)))) else (postbagref2_ending.j0 k l0 a1 a2_0 a2_1 a2_2 a2_3 a2_4 a2_5 a2_6))) = some (r1, r2, r3, r4, r5, r6, r7, r8) := h
 clear h
 replace H := Option.bind_eq_some_iff.mp H
 obtain ⟨t216, A40, H⟩ := H
 replace H : (if t216 = true then ((postbagref2_small.f k l0 (wrap64 (a1 + 1)) 60).bind fun bt217 => (if bt217.2 = true then (if bt217.1 = 60 then (postbagref2_ending.j0 k l0 (wrap64 (a1 + 2)) a2_0 a2_1 a2_2 a2_3 a2_4 59 a2_6) else (postbagref2_ending.j0 k l0 (wrap64 (a1 + 2)) a2_0 a2_1 a2_2 a2_3 a2_4 bt217.1 a2_6)) else (some (a2_0, a2_1, a2_2, a2_3, a2_4, a2_5, a2_6, false)))) else (postbagref2_ending.j0 k l0 a1 a2_0 a2_1 a2_2 a2_3 a2_4 a2_5 a2_6)) = some (r1, r2, r3, r4, r5, r6, r7, r8) := H
 have A4 := Aside0.mk A40
 clear A40
 have HC5 := Aside0.mk H
 clear H
 go_enter Tryd.func105, Tryd.ntmps105
 go_upto_if 14 with (first | ((with_reducible refine gate_dst (N := 5) rfl ?_); refine box_event ?hg (N := 5) ?hd (cs := #[.int .i64 a2_0, .int .i64 a2_1, .int .i64 a2_2, .int .i64 a2_3, .int .i64 a2_4, .int .i64 a2_5, .int .i64 a2_6]) (t := 23) ?hr ?_; (case hd => rfl); (case hg => rfl); (case hr => first | (go_simp; done) | (go_simp; rfl)); intro gb214 hg w6 hbox hb; have n0_ := Aside0.mk (below_step (by repeat (first | (with_reducible first | exact HB.out | apply below_alloc | apply pw_below_drewN | apply below_drew1) | exact HB.out)) hb); have n1_ := Aside0.mk (hbox); have n2_ := Aside0.mk ((by rw [hg]; exact (below_size (by repeat (first | (with_reducible first | exact HB.out | apply below_alloc | apply pw_below_drewN | apply below_drew1) | exact HB.out))) : w.heap.size ≤ gb214)); have n3_ := Aside0.mk ((by rw [hg]; exact (below_size (by repeat (first | (with_reducible first | exact HB.out | apply below_alloc | apply pw_below_drewN | apply below_drew1) | exact HB.out))) : w.heap.size ≤ gb214)); clear HB; have HB := n0_; have BK214 := n1_; have GW214 := n2_; have GE214 := n3_; clear n0_ n1_ n2_ n3_; clear hb hbox hg) | ((with_reducible refine gate_dst (N := 6) rfl ?_); refine box_event ?hg (N := 6) ?hd (cs := #[.int .i64 0, .int .i64 0, .int .i64 0, .int .i64 0, .int .i64 0, .int .i64 0, .int .i64 0]) (t := 23) ?hr ?_; (case hd => rfl); (case hg => rfl); (case hr => first | (go_simp; done) | (go_simp; rfl)); intro gb215 hg w7 hbox hb; have n0_ := Aside0.mk (blk_below (g := gb214) (o := .cells #[.int .i64 a2_0, .int .i64 a2_1, .int .i64 a2_2, .int .i64 a2_3, .int .i64 a2_4, .int .i64 a2_5, .int .i64 a2_6] 23 (0, 0)) (by (with_reducible repeat first | refine blk_drewN ?_ _ | refine blk_alloc ?_ _); exact BK214.out) hb); have n1_ := Aside0.mk (below_step (by repeat (first | (with_reducible first | exact HB.out | apply below_alloc | apply pw_below_drewN | apply below_drew1 | refine below_set ?_ GE214.out) | exact HB.out)) hb); have n2_ := Aside0.mk (hbox); have n3_ := Aside0.mk ((by rw [hg]; exact (below_size (by repeat (first | (with_reducible first | exact HB.out | apply below_alloc | apply pw_below_drewN | apply below_drew1 | refine below_set ?_ GE214.out) | exact HB.out))) : w.heap.size ≤ gb215)); have n4_ := Aside0.mk ((by rw [hg]; exact (below_size (by repeat (first | (with_reducible first | exact HB.out | apply below_alloc | apply pw_below_drewN | apply below_drew1 | refine below_set ?_ GE214.out) | exact HB.out))) : w.heap.size ≤ gb215)); have n5_ := Aside0.mk ((by rw [hg]; exact Nat.ne_of_lt (blk_lt (g := gb214) (o := .cells #[.int .i64 a2_0, .int .i64 a2_1, .int .i64 a2_2, .int .i64 a2_3, .int .i64 a2_4, .int .i64 a2_5, .int .i64 a2_6] 23 (0, 0)) (by (with_reducible repeat first | refine blk_drewN ?_ _ | refine blk_alloc ?_ _); exact BK214.out)) : gb214 ≠ gb215)); have n6_ := Aside0.mk ((by rw [hg]; exact Nat.ne_of_gt (blk_lt (g := gb214) (o := .cells #[.int .i64 a2_0, .int .i64 a2_1, .int .i64 a2_2, .int .i64 a2_3, .int .i64 a2_4, .int .i64 a2_5, .int .i64 a2_6] 23 (0, 0)) (by (with_reducible repeat first | refine blk_drewN ?_ _ | refine blk_alloc ?_ _); exact BK214.out)) : gb215 ≠ gb214)); clear BK214; clear HB; have BK214 := n0_; have HB := n1_; have BK215 := n2_; have GW215 := n3_; have GE215 := n4_; have NB214_215 := n5_; have NB215_214 := n6_; clear n0_ n1_ n2_ n3_ n4_ n5_ n6_; clear hb hbox hg) | ((with_reducible refine gate_callee (f := 102) rfl ?_); refine goesL_ (some 14) rfl rfl Tryd.func102 (by kernel_rfl) rfl #[.slice A0 l0.length c0, .int .i64 a1, .int .u8 58] rfl (by (try simp only [List.map_toArray, List.map_cons, List.map_nil]); first | done | rfl) ?_; (with_reducible refine (postbagref2_is.calls _ _ l0 a1 58 t216 _ ?side1 ?side2 A4.out).mono ?_); (case side1 => repeat (first | exact (Kd.C_below HR0.out HB.out) | (with_reducible refine Kd.C_alloc ?_ _) | (with_reducible refine Kd.C_drewN ?_ _) | (with_reducible refine Kd.C_drew ?_))); (case side2 => exact HC0.out); rintro e w' ⟨rfl, ⟨nd, rfl⟩⟩; refine ⟨_, rfl, ?_⟩))
 (try simp only [Act.put, s1_, s2_, s3_])
 go_cut [1] (fun v1 wc => ∃ (kq : Nat) (x1_4 : Int) (x215005_4 : Int) (x216000_4 : Int) (x216001_4 : Int) (x216002_4 : Int) (x216003_4 : Int) (x216004_4 : Int) (x216005_4 : Int) (x216006_4 : Int), v1 = .int .i64 x1_4 ∧ Aside0 (postbagref2_ending.j0 kq l0 x1_4 a2_0 a2_1 a2_2 a2_3 a2_4 x215005_4 a2_6 = some (r1, r2, r3, r4, r5, r6, r7, r8)) ∧ Aside0 (kq ≤ k) ∧ Aside0 (wc.heap[gb214]? = some (.cells #[.int .i64 a2_0, .int .i64 a2_1, .int .i64 a2_2, .int .i64 a2_3, .int .i64 a2_4, .int .i64 x215005_4, .int .i64 a2_6] 23 (0, 0))) ∧ Aside0 (wc.heap[gb215]? = some (.cells #[.int .i64 x216000_4, .int .i64 x216001_4, .int .i64 x216002_4, .int .i64 x216003_4, .int .i64 x216004_4, .int .i64 x216005_4, .int .i64 x216006_4] 23 (0, 0))) ∧ Aside0 (Below w.heap.size w wc))
 case first =>
  have H := HC5.out
  clear HC5
  by_cases c8 : t216 = true
  ·subst c8
   have H1 : ((postbagref2_small.f k l0 (wrap64 (a1 + 1)) 60).bind fun bt217 => (if bt217.2 = true then (if bt217.1 = 60 then (postbagref2_ending.j0 k l0 (wrap64 (a1 + 2)) a2_0 a2_1 a2_2 a2_3 a2_4 59 a2_6) else (postbagref2_ending.j0 k l0 (wrap64 (a1 + 2)) a2_0 a2_1 a2_2 a2_3 a2_4 bt217.1 a2_6)) else (some (a2_0, a2_1, a2_2, a2_3, a2_4, a2_5, a2_6, false)))) = some (r1, r2, r3, r4, r5, r6, r7, r8) := by rw [if_pos rfl] at H; exact H
   clear H
   have H := H1
   clear H1
   replace H := Option.bind_eq_some_iff.mp H
   obtain ⟨⟨t217, t218⟩, A90, H⟩ := H
   replace H : (if t218 = true then (if t217 = 60 then (postbagref2_ending.j0 k l0 (wrap64 (a1 + 2)) a2_0 a2_1 a2_2 a2_3 a2_4 59 a2_6) else (postbagref2_ending.j0 k l0 (wrap64 (a1 + 2)) a2_0 a2_1 a2_2 a2_3 a2_4 t217 a2_6)) else (some (a2_0, a2_1, a2_2, a2_3, a2_4, a2_5, a2_6, false))) = some (r1, r2, r3, r4, r5, r6, r7, r8) := H
   have A9 := Aside0.mk A90
   clear A90
   by_cases c10 : t218 = true
   ·subst c10
    have H1 : (if t217 = 60 then (postbagref2_ending.j0 k l0 (wrap64 (a1 + 2)) a2_0 a2_1 a2_2 a2_3 a2_4 59 a2_6) else (postbagref2_ending.j0 k l0 (wrap64 (a1 + 2)) a2_0 a2_1 a2_2 a2_3 a2_4 t217 a2_6)) = some (r1, r2, r3, r4, r5, r6, r7, r8) := by rw [if_pos rfl] at H; exact H
    clear H
    have H := H1
    clear H1
    by_cases c11 : t217 = 60
    ·rw [if_pos c11] at H
     have c11b0 : (t217 == 60) = true := beq_iff_eq.mpr c11
     have c11b1 : (t217 != 60) = false := bne_eq_false_iff_eq.mpr c11
     clear c11
     (first | rw [c11b0] | (simp only [i64_w, i32_w]; rw [c11b0]) | skip)
     have H' := Aside0.mk H
     clear H
     go_wp2_with (first | ((with_reducible refine gate_callee (f := 103) rfl ?_); refine goesL_ (some 19) rfl rfl Tryd.func103 (by kernel_rfl) rfl #[.slice A0 l0.length c0, .int .i64 (wrap64 (a1 + 1)), .int .i64 60] rfl (by (try simp only [List.map_toArray, List.map_cons, List.map_nil]); first | done | rfl) ?_; (with_reducible refine (postbagref2_small.calls k _ _ l0 (wrap64 (a1 + 1)) 60 t217 true _ ?side1 ?side2 A9.out).mono ?_); (case side1 => repeat (first | exact (Kd.C_below HR0.out HB.out) | (with_reducible refine Kd.C_alloc ?_ _) | (with_reducible refine Kd.C_drewN ?_ _) | (with_reducible refine Kd.C_drew ?_))); (case side2 => exact HC0.out); rintro e w' ⟨rfl, ⟨nd, rfl⟩⟩; refine ⟨_, rfl, ?_⟩; (try (rw [drewN_self w7]; generalize hq_ : World.drewN w7 _ = w7; have n0_ : Aside0 (w7.heap[gb214]? = some (.cells #[.int .i64 a2_0, .int .i64 a2_1, .int .i64 a2_2, .int .i64 a2_3, .int .i64 a2_4, .int .i64 a2_5, .int .i64 a2_6] 23 (0, 0))) := ⟨by rw [← hq_]; exact (by (with_reducible repeat first | refine blk_drewN ?_ _ | refine blk_alloc ?_ _); exact BK214.out)⟩; have n1_ : Aside0 (w7.heap[gb215]? = some (.cells #[.int .i64 0, .int .i64 0, .int .i64 0, .int .i64 0, .int .i64 0, .int .i64 0, .int .i64 0] 23 (0, 0))) := ⟨by rw [← hq_]; exact (by (with_reducible repeat first | refine blk_drewN ?_ _ | refine blk_alloc ?_ _); exact BK215.out)⟩; have n2_ : Aside0 (Below w.heap.size w w7) := ⟨by rw [← hq_]; exact (by repeat (first | (with_reducible first | exact HB.out | apply below_alloc | apply pw_below_drewN | apply below_drew1 | refine below_set ?_ GE214.out | refine below_set ?_ GE215.out) | exact HB.out))⟩; clear BK214 BK215 HB hq_; have BK214 := n0_; have BK215 := n1_; have HB := n2_; clear n0_ n1_ n2_)); have hnb12 := NB214_215.out; have hnc12 := NB215_214.out; have hcz13_0 : w7.cell? ⟨gb214, 0, none⟩ = some (.int .i64 a2_0) := (blk_cell BK214.out 0).trans rfl; have hcz13_1 : w7.cell? ⟨gb214, 1, none⟩ = some (.int .i64 a2_1) := (blk_cell BK214.out 1).trans rfl; have hcz13_2 : w7.cell? ⟨gb214, 2, none⟩ = some (.int .i64 a2_2) := (blk_cell BK214.out 2).trans rfl; have hcz13_3 : w7.cell? ⟨gb214, 3, none⟩ = some (.int .i64 a2_3) := (blk_cell BK214.out 3).trans rfl; have hcz13_4 : w7.cell? ⟨gb214, 4, none⟩ = some (.int .i64 a2_4) := (blk_cell BK214.out 4).trans rfl; have hcz13_5 : w7.cell? ⟨gb214, 5, none⟩ = some (.int .i64 a2_5) := (blk_cell BK214.out 5).trans rfl; have hcz13_6 : w7.cell? ⟨gb214, 6, none⟩ = some (.int .i64 a2_6) := (blk_cell BK214.out 6).trans rfl; have hfz13_0 := blk_frozen BK214.out 0; have hfz13_1 := blk_frozen BK214.out 1; have hfz13_2 := blk_frozen BK214.out 2; have hfz13_3 := blk_frozen BK214.out 3; have hfz13_4 := blk_frozen BK214.out 4; have hfz13_5 := blk_frozen BK214.out 5; have hfz13_6 := blk_frozen BK214.out 6))
     go_meet
     case rel => exact ⟨_, (wrap64 (a1 + 2)), (59), (0), (0), (0), (0), (0), (0), (0), (by first | rfl | (simp; done) | (simp [*]; done)), H', ⟨by first | omega | exact Nat.le_refl _⟩, ⟨by (with_reducible repeat first | refine blk_drewN ?_ _ | refine blk_alloc ?_ _); refine blk_put (cs := #[.int .i64 a2_0, .int .i64 a2_1, .int .i64 a2_2, .int .i64 a2_3, .int .i64 a2_4, .int .i64 a2_5, .int .i64 a2_6]) ?_ 5 _ rfl; (with_reducible repeat first | refine blk_drewN ?_ _ | refine blk_alloc ?_ _); exact BK214.out⟩, ⟨by (with_reducible repeat first | refine blk_drewN ?_ _ | refine blk_alloc ?_ _); refine blk_far ?_ NB215_214.out _; (with_reducible repeat first | refine blk_drewN ?_ _ | refine blk_alloc ?_ _); exact BK215.out⟩, ⟨by repeat (first | (with_reducible first | exact HB.out | apply below_alloc | apply pw_below_drewN | apply below_drew1 | refine below_set ?_ GE214.out | refine below_set ?_ GE215.out) | exact HB.out)⟩⟩
    ·rw [if_neg c11] at H
     have c11b0 : (t217 == 60) = false := beq_eq_false_iff_ne.mpr c11
     have c11b1 : (t217 != 60) = true := bne_iff_ne.mpr c11
     (first | rw [c11b0] | (simp only [i64_w, i32_w]; rw [c11b0]) | skip)
     have H' := Aside0.mk H
     clear H
     go_wp2_with (first | ((with_reducible refine gate_callee (f := 103) rfl ?_); refine goesL_ (some 19) rfl rfl Tryd.func103 (by kernel_rfl) rfl #[.slice A0 l0.length c0, .int .i64 (wrap64 (a1 + 1)), .int .i64 60] rfl (by (try simp only [List.map_toArray, List.map_cons, List.map_nil]); first | done | rfl) ?_; (with_reducible refine (postbagref2_small.calls k _ _ l0 (wrap64 (a1 + 1)) 60 t217 true _ ?side1 ?side2 A9.out).mono ?_); (case side1 => repeat (first | exact (Kd.C_below HR0.out HB.out) | (with_reducible refine Kd.C_alloc ?_ _) | (with_reducible refine Kd.C_drewN ?_ _) | (with_reducible refine Kd.C_drew ?_))); (case side2 => exact HC0.out); rintro e w' ⟨rfl, ⟨nd, rfl⟩⟩; refine ⟨_, rfl, ?_⟩; (try (rw [drewN_self w7]; generalize hq_ : World.drewN w7 _ = w7; have n0_ : Aside0 (w7.heap[gb214]? = some (.cells #[.int .i64 a2_0, .int .i64 a2_1, .int .i64 a2_2, .int .i64 a2_3, .int .i64 a2_4, .int .i64 a2_5, .int .i64 a2_6] 23 (0, 0))) := ⟨by rw [← hq_]; exact (by (with_reducible repeat first | refine blk_drewN ?_ _ | refine blk_alloc ?_ _); exact BK214.out)⟩; have n1_ : Aside0 (w7.heap[gb215]? = some (.cells #[.int .i64 0, .int .i64 0, .int .i64 0, .int .i64 0, .int .i64 0, .int .i64 0, .int .i64 0] 23 (0, 0))) := ⟨by rw [← hq_]; exact (by (with_reducible repeat first | refine blk_drewN ?_ _ | refine blk_alloc ?_ _); exact BK215.out)⟩; have n2_ : Aside0 (Below w.heap.size w w7) := ⟨by rw [← hq_]; exact (by repeat (first | (with_reducible first | exact HB.out | apply below_alloc | apply pw_below_drewN | apply below_drew1 | refine below_set ?_ GE214.out | refine below_set ?_ GE215.out) | exact HB.out))⟩; clear BK214 BK215 HB hq_; have BK214 := n0_; have BK215 := n1_; have HB := n2_; clear n0_ n1_ n2_)); have hnb14 := NB214_215.out; have hnc14 := NB215_214.out; have hcz15_0 : w7.cell? ⟨gb214, 0, none⟩ = some (.int .i64 a2_0) := (blk_cell BK214.out 0).trans rfl; have hcz15_1 : w7.cell? ⟨gb214, 1, none⟩ = some (.int .i64 a2_1) := (blk_cell BK214.out 1).trans rfl; have hcz15_2 : w7.cell? ⟨gb214, 2, none⟩ = some (.int .i64 a2_2) := (blk_cell BK214.out 2).trans rfl; have hcz15_3 : w7.cell? ⟨gb214, 3, none⟩ = some (.int .i64 a2_3) := (blk_cell BK214.out 3).trans rfl; have hcz15_4 : w7.cell? ⟨gb214, 4, none⟩ = some (.int .i64 a2_4) := (blk_cell BK214.out 4).trans rfl; have hcz15_5 : w7.cell? ⟨gb214, 5, none⟩ = some (.int .i64 a2_5) := (blk_cell BK214.out 5).trans rfl; have hcz15_6 : w7.cell? ⟨gb214, 6, none⟩ = some (.int .i64 a2_6) := (blk_cell BK214.out 6).trans rfl; have hfz15_0 := blk_frozen BK214.out 0; have hfz15_1 := blk_frozen BK214.out 1; have hfz15_2 := blk_frozen BK214.out 2; have hfz15_3 := blk_frozen BK214.out 3; have hfz15_4 := blk_frozen BK214.out 4; have hfz15_5 := blk_frozen BK214.out 5; have hfz15_6 := blk_frozen BK214.out 6))
     go_meet
     case rel => exact ⟨_, (wrap64 (a1 + 2)), (t217), (0), (0), (0), (0), (0), (0), (0), (by first | rfl | (simp; done) | (simp [*]; done)), H', ⟨by first | omega | exact Nat.le_refl _⟩, ⟨by (with_reducible repeat first | refine blk_drewN ?_ _ | refine blk_alloc ?_ _); refine blk_put (cs := #[.int .i64 a2_0, .int .i64 a2_1, .int .i64 a2_2, .int .i64 a2_3, .int .i64 a2_4, .int .i64 a2_5, .int .i64 a2_6]) ?_ 5 _ rfl; (with_reducible repeat first | refine blk_drewN ?_ _ | refine blk_alloc ?_ _); exact BK214.out⟩, ⟨by (with_reducible repeat first | refine blk_drewN ?_ _ | refine blk_alloc ?_ _); refine blk_far ?_ NB215_214.out _; (with_reducible repeat first | refine blk_drewN ?_ _ | refine blk_alloc ?_ _); exact BK215.out⟩, ⟨by repeat (first | (with_reducible first | exact HB.out | apply below_alloc | apply pw_below_drewN | apply below_drew1 | refine below_set ?_ GE214.out | refine below_set ?_ GE215.out) | exact HB.out)⟩⟩
   ·replace c10 := Bool.eq_false_iff.mpr c10
    subst c10
    have H1 : (some (a2_0, a2_1, a2_2, a2_3, a2_4, a2_5, a2_6, false)) = some (r1, r2, r3, r4, r5, r6, r7, r8) := by rw [if_neg (show ¬ (false = true) by decide)] at H; exact H
    clear H
    have H := H1
    clear H1
    simp only [Option.some.injEq, Prod.mk.injEq] at H
    obtain ⟨rfl, rfl, rfl, rfl, rfl, rfl, rfl, rfl⟩ := H
    go_wp2_with (first | ((with_reducible refine gate_callee (f := 103) rfl ?_); refine goesL_ (some 19) rfl rfl Tryd.func103 (by kernel_rfl) rfl #[.slice A0 l0.length c0, .int .i64 (wrap64 (a1 + 1)), .int .i64 60] rfl (by (try simp only [List.map_toArray, List.map_cons, List.map_nil]); first | done | rfl) ?_; (with_reducible refine (postbagref2_small.calls k _ _ l0 (wrap64 (a1 + 1)) 60 t217 false _ ?side1 ?side2 A9.out).mono ?_); (case side1 => repeat (first | exact (Kd.C_below HR0.out HB.out) | (with_reducible refine Kd.C_alloc ?_ _) | (with_reducible refine Kd.C_drewN ?_ _) | (with_reducible refine Kd.C_drew ?_))); (case side2 => exact HC0.out); rintro e w' ⟨rfl, ⟨nd, rfl⟩⟩; refine ⟨_, rfl, ?_⟩; (try (rw [drewN_self w7]; generalize hq_ : World.drewN w7 _ = w7; have n0_ : Aside0 (w7.heap[gb214]? = some (.cells #[.int .i64 a2_0, .int .i64 a2_1, .int .i64 a2_2, .int .i64 a2_3, .int .i64 a2_4, .int .i64 a2_5, .int .i64 a2_6] 23 (0, 0))) := ⟨by rw [← hq_]; exact (by (with_reducible repeat first | refine blk_drewN ?_ _ | refine blk_alloc ?_ _); exact BK214.out)⟩; have n1_ : Aside0 (w7.heap[gb215]? = some (.cells #[.int .i64 0, .int .i64 0, .int .i64 0, .int .i64 0, .int .i64 0, .int .i64 0, .int .i64 0] 23 (0, 0))) := ⟨by rw [← hq_]; exact (by (with_reducible repeat first | refine blk_drewN ?_ _ | refine blk_alloc ?_ _); exact BK215.out)⟩; have n2_ : Aside0 (Below w.heap.size w w7) := ⟨by rw [← hq_]; exact (by repeat (first | (with_reducible first | exact HB.out | apply below_alloc | apply pw_below_drewN | apply below_drew1 | refine below_set ?_ GE214.out | refine below_set ?_ GE215.out) | exact HB.out))⟩; clear BK214 BK215 HB hq_; have BK214 := n0_; have BK215 := n1_; have HB := n2_; clear n0_ n1_ n2_)); have hnb16 := NB214_215.out; have hnc16 := NB215_214.out; have hcz17_0 : w7.cell? ⟨gb214, 0, none⟩ = some (.int .i64 a2_0) := (blk_cell BK214.out 0).trans rfl; have hcz17_1 : w7.cell? ⟨gb214, 1, none⟩ = some (.int .i64 a2_1) := (blk_cell BK214.out 1).trans rfl; have hcz17_2 : w7.cell? ⟨gb214, 2, none⟩ = some (.int .i64 a2_2) := (blk_cell BK214.out 2).trans rfl; have hcz17_3 : w7.cell? ⟨gb214, 3, none⟩ = some (.int .i64 a2_3) := (blk_cell BK214.out 3).trans rfl; have hcz17_4 : w7.cell? ⟨gb214, 4, none⟩ = some (.int .i64 a2_4) := (blk_cell BK214.out 4).trans rfl; have hcz17_5 : w7.cell? ⟨gb214, 5, none⟩ = some (.int .i64 a2_5) := (blk_cell BK214.out 5).trans rfl; have hcz17_6 : w7.cell? ⟨gb214, 6, none⟩ = some (.int .i64 a2_6) := (blk_cell BK214.out 6).trans rfl; have hfz17_0 := blk_frozen BK214.out 0; have hfz17_1 := blk_frozen BK214.out 1; have hfz17_2 := blk_frozen BK214.out 2; have hfz17_3 := blk_frozen BK214.out 3; have hfz17_4 := blk_frozen BK214.out 4; have hfz17_5 := blk_frozen BK214.out 5; have hfz17_6 := blk_frozen BK214.out 6; have hcz18_0 : w7.cell? ⟨gb215, 0, none⟩ = some (.int .i64 0) := (blk_cell BK215.out 0).trans rfl; have hcz18_1 : w7.cell? ⟨gb215, 1, none⟩ = some (.int .i64 0) := (blk_cell BK215.out 1).trans rfl; have hcz18_2 : w7.cell? ⟨gb215, 2, none⟩ = some (.int .i64 0) := (blk_cell BK215.out 2).trans rfl; have hcz18_3 : w7.cell? ⟨gb215, 3, none⟩ = some (.int .i64 0) := (blk_cell BK215.out 3).trans rfl; have hcz18_4 : w7.cell? ⟨gb215, 4, none⟩ = some (.int .i64 0) := (blk_cell BK215.out 4).trans rfl; have hcz18_5 : w7.cell? ⟨gb215, 5, none⟩ = some (.int .i64 0) := (blk_cell BK215.out 5).trans rfl; have hcz18_6 : w7.cell? ⟨gb215, 6, none⟩ = some (.int .i64 0) := (blk_cell BK215.out 6).trans rfl; have hfz18_0 := blk_frozen BK215.out 0; have hfz18_1 := blk_frozen BK215.out 1; have hfz18_2 := blk_frozen BK215.out 2; have hfz18_3 := blk_frozen BK215.out 3; have hfz18_4 := blk_frozen BK215.out 4; have hfz18_5 := blk_frozen BK215.out 5; have hfz18_6 := blk_frozen BK215.out 6))
    refine bodyPost_ret (results_ct rfl _ _ gb215 23 #[.int .i64 a2_0, .int .i64 a2_1, .int .i64 a2_2, .int .i64 a2_3, .int .i64 a2_4, .int .i64 a2_5, .int .i64 a2_6] (0, 0) _ rfl (by (with_reducible repeat first | refine blk_drewN ?_ _ | refine blk_alloc ?_ _); refine blk_put (cs := #[.int .i64 a2_0, .int .i64 a2_1, .int .i64 a2_2, .int .i64 a2_3, .int .i64 a2_4, .int .i64 a2_5, .int .i64 0]) ?_ 6 _ rfl; (with_reducible repeat first | refine blk_drewN ?_ _ | refine blk_alloc ?_ _); refine blk_put (cs := #[.int .i64 a2_0, .int .i64 a2_1, .int .i64 a2_2, .int .i64 a2_3, .int .i64 a2_4, .int .i64 0, .int .i64 0]) ?_ 5 _ rfl; (with_reducible repeat first | refine blk_drewN ?_ _ | refine blk_alloc ?_ _); refine blk_put (cs := #[.int .i64 a2_0, .int .i64 a2_1, .int .i64 a2_2, .int .i64 a2_3, .int .i64 0, .int .i64 0, .int .i64 0]) ?_ 4 _ rfl; (with_reducible repeat first | refine blk_drewN ?_ _ | refine blk_alloc ?_ _); refine blk_put (cs := #[.int .i64 a2_0, .int .i64 a2_1, .int .i64 a2_2, .int .i64 0, .int .i64 0, .int .i64 0, .int .i64 0]) ?_ 3 _ rfl; (with_reducible repeat first | refine blk_drewN ?_ _ | refine blk_alloc ?_ _); refine blk_put (cs := #[.int .i64 a2_0, .int .i64 a2_1, .int .i64 0, .int .i64 0, .int .i64 0, .int .i64 0, .int .i64 0]) ?_ 2 _ rfl; (with_reducible repeat first | refine blk_drewN ?_ _ | refine blk_alloc ?_ _); refine blk_put (cs := #[.int .i64 a2_0, .int .i64 0, .int .i64 0, .int .i64 0, .int .i64 0, .int .i64 0, .int .i64 0]) ?_ 1 _ rfl; (with_reducible repeat first | refine blk_drewN ?_ _ | refine blk_alloc ?_ _); refine blk_put (cs := #[.int .i64 0, .int .i64 0, .int .i64 0, .int .i64 0, .int .i64 0, .int .i64 0, .int .i64 0]) ?_ 0 _ rfl; (with_reducible repeat first | refine blk_drewN ?_ _ | refine blk_alloc ?_ _); exact BK215.out) Tryd.underlying23 rfl (by kernel_rfl)) rfl ?_
    exact ⟨by first | rfl | (simp [errW_none, errW_some] <;> rfl) | (simp [*, errW_none, errW_some] <;> rfl), by repeat (first | (with_reducible first | exact HB.out | apply below_alloc | apply pw_below_drewN | apply below_drew1 | refine below_set ?_ GE214.out | refine below_set ?_ GE215.out) | exact HB.out)⟩
  ·replace c8 := Bool.eq_false_iff.mpr c8
   subst c8
   have H1 : (postbagref2_ending.j0 k l0 a1 a2_0 a2_1 a2_2 a2_3 a2_4 a2_5 a2_6) = some (r1, r2, r3, r4, r5, r6, r7, r8) := by rw [if_neg (show ¬ (false = true) by decide)] at H; exact H
   clear H
   have H := H1
   clear H1
   have H' := Aside0.mk H
   clear H
   go_wp2
   go_meet
   case rel => exact ⟨_, (a1), (a2_5), (0), (0), (0), (0), (0), (0), (0), (by first | rfl | (simp; done) | (simp [*]; done)), H', ⟨by first | omega | exact Nat.le_refl _⟩, ⟨by (with_reducible repeat first | refine blk_drewN ?_ _ | refine blk_alloc ?_ _); exact BK214.out⟩, ⟨by (with_reducible repeat first | refine blk_drewN ?_ _ | refine blk_alloc ?_ _); exact BK215.out⟩, ⟨by repeat (first | (with_reducible first | exact HB.out | apply below_alloc | apply pw_below_drewN | apply below_drew1 | refine below_set ?_ GE214.out | refine below_set ?_ GE215.out) | exact HB.out)⟩⟩
 case rest =>
  clear HC5
  try clear c1
  try clear p2
  try clear p6
  try clear c8
  try clear c10
  try clear c11
  try clear c11b0
  try clear c11b1
  try clear c12
  try clear c14
  try clear c16
  try clear hcz13_0
  try clear hcz13_1
  try clear hcz13_2
  try clear hcz13_3
  try clear hcz13_4
  try clear hcz13_5
  try clear hcz13_6
  try clear hcz15_0
  try clear hcz15_1
  try clear hcz15_2
  try clear hcz15_3
  try clear hcz15_4
  try clear hcz15_5
  try clear hcz15_6
  try clear hcz17_0
  try clear hcz17_1
  try clear hcz17_2
  try clear hcz17_3
  try clear hcz17_4
  try clear hcz17_5
  try clear hcz17_6
  try clear hcz18_0
  try clear hcz18_1
  try clear hcz18_2
  try clear hcz18_3
  try clear hcz18_4
  try clear hcz18_5
  try clear hcz18_6
  try clear hfz13_0
  try clear hfz13_1
  try clear hfz13_2
  try clear hfz13_3
  try clear hfz13_4
  try clear hfz13_5
  try clear hfz13_6
  try clear hfz15_0
  try clear hfz15_1
  try clear hfz15_2
  try clear hfz15_3
  try clear hfz15_4
  try clear hfz15_5
  try clear hfz15_6
  try clear hfz17_0
  try clear hfz17_1
  try clear hfz17_2
  try clear hfz17_3
  try clear hfz17_4
  try clear hfz17_5
  try clear hfz17_6
  try clear hfz18_0
  try clear hfz18_1
  try clear hfz18_2
  try clear hfz18_3
  try clear hfz18_4
  try clear hfz18_5
  try clear hfz18_6
  obtain ⟨kq, x1_4, x215005_4, x216000_4, x216001_4, x216002_4, x216003_4, x216004_4, x216005_4, x216006_4, rfl, HA, HJ4, BK214, BK215, HB⟩ := hcut
  cases kq with
  | zero => exact absurd HA.out (by simp [postbagref2_ending.j0])
  | succ kj4 =>
   have H := HA.out
   clear HA
   simp only [postbagref2_ending.j0] at H
   replace H := Option.bind_eq_some_iff.mp H
   obtain ⟨t219, A190, H⟩ := H
   replace H : (if t219 = true then (if 0 ≤ x1_4 then (if x1_4 < (l0.length : Int) then ((postbagref2_letters.f kj4 ((rd_T95 l0 x1_4).f1)).bind fun t221 => (some (a2_0, a2_1, a2_2, a2_3, a2_4, x215005_4, t221, ((wrap64 (x1_4 + 1)) == (l0.length : Int))))) else (none)) else (none)) else ((postbagref2_is.f l0 x1_4 115).bind fun t222 => (if t222 = true then (if 0 ≤ x1_4 then (if x1_4 < (l0.length : Int) then ((postbagref2_zoned.f kj4 ((rd_T95 l0 x1_4).f1)).bind fun bt224 => (if bt224.2 = true then (some (a2_0, a2_1, a2_2, a2_3, a2_4, x215005_4, bt224.1, ((wrap64 (x1_4 + 1)) == (l0.length : Int)))) else (some (a2_0, a2_1, a2_2, a2_3, a2_4, x215005_4, a2_6, false)))) else (none)) else (none)) else (some (a2_0, a2_1, a2_2, a2_3, a2_4, x215005_4, a2_6, (x1_4 == (l0.length : Int))))))) = some (r1, r2, r3, r4, r5, r6, r7, r8) := H
   have A19 := Aside0.mk A190
   clear A190
   by_cases c20 : t219 = true
   ·subst c20
    have H1 : (if 0 ≤ x1_4 then (if x1_4 < (l0.length : Int) then ((postbagref2_letters.f kj4 ((rd_T95 l0 x1_4).f1)).bind fun t221 => (some (a2_0, a2_1, a2_2, a2_3, a2_4, x215005_4, t221, ((wrap64 (x1_4 + 1)) == (l0.length : Int))))) else (none)) else (none)) = some (r1, r2, r3, r4, r5, r6, r7, r8) := by rw [if_pos rfl] at H; exact H
    clear H
    have H := H1
    clear H1
    by_cases c21 : 0 ≤ x1_4
    ·rw [if_pos c21] at H
     have c21b0 : decide (0 ≤ x1_4) = true := decide_eq_true c21
     clear c21
     by_cases c22 : x1_4 < (l0.length : Int)
     ·rw [if_pos c22] at H
      have c22b0 : decide (x1_4 < (l0.length : Int)) = true := decide_eq_true c22
      clear c22
      replace H := Option.bind_eq_some_iff.mp H
      obtain ⟨t221, A230, H⟩ := H
      replace H : (some (a2_0, a2_1, a2_2, a2_3, a2_4, x215005_4, t221, ((wrap64 (x1_4 + 1)) == (l0.length : Int)))) = some (r1, r2, r3, r4, r5, r6, r7, r8) := H
      have A23 := Aside0.mk A230
      clear A230
      simp only [Option.some.injEq, Prod.mk.injEq] at H
      obtain ⟨rfl, rfl, rfl, rfl, rfl, rfl, rfl, rfl⟩ := H
      go_wp2_with (first | ((with_reducible refine gate_callee (f := 102) rfl ?_); refine goesL_ (some 33) rfl rfl Tryd.func102 (by kernel_rfl) rfl #[.slice A0 l0.length c0, .int .i64 x1_4, .int .u8 97] rfl (by (try simp only [List.map_toArray, List.map_cons, List.map_nil]); first | done | rfl) ?_; (with_reducible refine (postbagref2_is.calls _ _ l0 x1_4 97 true _ ?side1 ?side2 A19.out).mono ?_); (case side1 => repeat (first | exact (Kd.C_below HR0.out HB.out) | (with_reducible refine Kd.C_alloc ?_ _) | (with_reducible refine Kd.C_drewN ?_ _) | (with_reducible refine Kd.C_drew ?_))); (case side2 => exact HC0.out); rintro e w' ⟨rfl, ⟨nd, rfl⟩⟩; refine ⟨_, rfl, ?_⟩; (try (rw [drewN_self wc]; generalize hq_ : World.drewN wc _ = wc; have n0_ : Aside0 (wc.heap[gb214]? = some (.cells #[.int .i64 a2_0, .int .i64 a2_1, .int .i64 a2_2, .int .i64 a2_3, .int .i64 a2_4, .int .i64 x215005_4, .int .i64 a2_6] 23 (0, 0))) := ⟨by rw [← hq_]; exact (by (with_reducible repeat first | refine blk_drewN ?_ _ | refine blk_alloc ?_ _); exact BK214.out)⟩; have n1_ : Aside0 (wc.heap[gb215]? = some (.cells #[.int .i64 x216000_4, .int .i64 x216001_4, .int .i64 x216002_4, .int .i64 x216003_4, .int .i64 x216004_4, .int .i64 x216005_4, .int .i64 x216006_4] 23 (0, 0))) := ⟨by rw [← hq_]; exact (by (with_reducible repeat first | refine blk_drewN ?_ _ | refine blk_alloc ?_ _); exact BK215.out)⟩; have n2_ : Aside0 (Below w.heap.size w wc) := ⟨by rw [← hq_]; exact (by repeat (first | (with_reducible first | exact HB.out | apply below_alloc | apply pw_below_drewN | apply below_drew1 | refine below_set ?_ GE214.out | refine below_set ?_ GE215.out) | exact HB.out))⟩; clear BK214 BK215 HB hq_; have BK214 := n0_; have BK215 := n1_; have HB := n2_; clear n0_ n1_ n2_)); have p220 : 0 ≤ (x1_4 : Int) := of_decide_eq_true (by first | (with_reducible assumption) | assumption); have q220 : x1_4 < (l0.length : Int) := of_decide_eq_true (by first | (with_reducible assumption) | assumption); obtain ⟨ad220, e220, hx220_0, hx220_1⟩ := at_T95 HR0.out x1_4 p220 q220; cases e220; replace hx220_0 := (HB.out.cell (World.block_lt_of_cell? w _ hx220_0)).trans hx220_0; replace hx220_1 := (HB.out.cell (World.block_lt_of_cell? w _ hx220_1)).trans hx220_1; replace p220 := eq_true p220; replace q220 := eq_true q220) | ((with_reducible refine gate_callee (f := 107) rfl ?_); refine goesL_ (some 39) rfl rfl Tryd.func107 (by kernel_rfl) rfl #[.string ((rd_T95 l0 x1_4).f1)] rfl (by (try simp only [List.map_toArray, List.map_cons, List.map_nil]); first | done | rfl) ?_; (with_reducible refine (postbagref2_letters.calls kj4 ((rd_T95 l0 x1_4).f1) t221 _ A23.out).mono ?_); rintro e w24 ⟨rfl, hb⟩; refine ⟨_, rfl, ?_⟩; have n0_ := Aside0.mk (blk_below (g := gb214) (o := .cells #[.int .i64 a2_0, .int .i64 a2_1, .int .i64 a2_2, .int .i64 a2_3, .int .i64 a2_4, .int .i64 x215005_4, .int .i64 a2_6] 23 (0, 0)) (by (with_reducible repeat first | refine blk_drewN ?_ _ | refine blk_alloc ?_ _); exact BK214.out) hb); have n1_ := Aside0.mk (blk_below (g := gb215) (o := .cells #[.int .i64 x216000_4, .int .i64 x216001_4, .int .i64 x216002_4, .int .i64 x216003_4, .int .i64 x216004_4, .int .i64 x216005_4, .int .i64 x216006_4] 23 (0, 0)) (by (with_reducible repeat first | refine blk_drewN ?_ _ | refine blk_alloc ?_ _); exact BK215.out) hb); have n2_ := Aside0.mk (below_step (by repeat (first | (with_reducible first | exact HB.out | apply below_alloc | apply pw_below_drewN | apply below_drew1 | refine below_set ?_ GE214.out | refine below_set ?_ GE215.out) | exact HB.out)) hb); clear BK214; clear BK215; clear HB; have BK214 := n0_; have BK215 := n1_; have HB := n2_; clear n0_ n1_ n2_; (try clear hb); (try clear hb2); (try clear hk); (try clear hi); have hnb25 := NB214_215.out; have hnc25 := NB215_214.out; have hcz26_0 : w24.cell? ⟨gb214, 0, none⟩ = some (.int .i64 a2_0) := (blk_cell BK214.out 0).trans rfl; have hcz26_1 : w24.cell? ⟨gb214, 1, none⟩ = some (.int .i64 a2_1) := (blk_cell BK214.out 1).trans rfl; have hcz26_2 : w24.cell? ⟨gb214, 2, none⟩ = some (.int .i64 a2_2) := (blk_cell BK214.out 2).trans rfl; have hcz26_3 : w24.cell? ⟨gb214, 3, none⟩ = some (.int .i64 a2_3) := (blk_cell BK214.out 3).trans rfl; have hcz26_4 : w24.cell? ⟨gb214, 4, none⟩ = some (.int .i64 a2_4) := (blk_cell BK214.out 4).trans rfl; have hcz26_5 : w24.cell? ⟨gb214, 5, none⟩ = some (.int .i64 x215005_4) := (blk_cell BK214.out 5).trans rfl; have hcz26_6 : w24.cell? ⟨gb214, 6, none⟩ = some (.int .i64 a2_6) := (blk_cell BK214.out 6).trans rfl; have hfz26_0 := blk_frozen BK214.out 0; have hfz26_1 := blk_frozen BK214.out 1; have hfz26_2 := blk_frozen BK214.out 2; have hfz26_3 := blk_frozen BK214.out 3; have hfz26_4 := blk_frozen BK214.out 4; have hfz26_5 := blk_frozen BK214.out 5; have hfz26_6 := blk_frozen BK214.out 6; have hcz27_0 : w24.cell? ⟨gb215, 0, none⟩ = some (.int .i64 x216000_4) := (blk_cell BK215.out 0).trans rfl; have hcz27_1 : w24.cell? ⟨gb215, 1, none⟩ = some (.int .i64 x216001_4) := (blk_cell BK215.out 1).trans rfl; have hcz27_2 : w24.cell? ⟨gb215, 2, none⟩ = some (.int .i64 x216002_4) := (blk_cell BK215.out 2).trans rfl; have hcz27_3 : w24.cell? ⟨gb215, 3, none⟩ = some (.int .i64 x216003_4) := (blk_cell BK215.out 3).trans rfl; have hcz27_4 : w24.cell? ⟨gb215, 4, none⟩ = some (.int .i64 x216004_4) := (blk_cell BK215.out 4).trans rfl; have hcz27_5 : w24.cell? ⟨gb215, 5, none⟩ = some (.int .i64 x216005_4) := (blk_cell BK215.out 5).trans rfl; have hcz27_6 : w24.cell? ⟨gb215, 6, none⟩ = some (.int .i64 x216006_4) := (blk_cell BK215.out 6).trans rfl; have hfz27_0 := blk_frozen BK215.out 0; have hfz27_1 := blk_frozen BK215.out 1; have hfz27_2 := blk_frozen BK215.out 2; have hfz27_3 := blk_frozen BK215.out 3; have hfz27_4 := blk_frozen BK215.out 4; have hfz27_5 := blk_frozen BK215.out 5; have hfz27_6 := blk_frozen BK215.out 6))
      refine bodyPost_ret (results_ct rfl _ _ gb215 23 #[.int .i64 a2_0, .int .i64 a2_1, .int .i64 a2_2, .int .i64 a2_3, .int .i64 a2_4, .int .i64 x215005_4, .int .i64 t221] (0, 0) _ rfl (by (with_reducible repeat first | refine blk_drewN ?_ _ | refine blk_alloc ?_ _); refine blk_put (cs := #[.int .i64 a2_0, .int .i64 a2_1, .int .i64 a2_2, .int .i64 a2_3, .int .i64 a2_4, .int .i64 x215005_4, .int .i64 x216006_4]) ?_ 6 _ rfl; (with_reducible repeat first | refine blk_drewN ?_ _ | refine blk_alloc ?_ _); refine blk_put (cs := #[.int .i64 a2_0, .int .i64 a2_1, .int .i64 a2_2, .int .i64 a2_3, .int .i64 a2_4, .int .i64 x216005_4, .int .i64 x216006_4]) ?_ 5 _ rfl; (with_reducible repeat first | refine blk_drewN ?_ _ | refine blk_alloc ?_ _); refine blk_put (cs := #[.int .i64 a2_0, .int .i64 a2_1, .int .i64 a2_2, .int .i64 a2_3, .int .i64 x216004_4, .int .i64 x216005_4, .int .i64 x216006_4]) ?_ 4 _ rfl; (with_reducible repeat first | refine blk_drewN ?_ _ | refine blk_alloc ?_ _); refine blk_put (cs := #[.int .i64 a2_0, .int .i64 a2_1, .int .i64 a2_2, .int .i64 x216003_4, .int .i64 x216004_4, .int .i64 x216005_4, .int .i64 x216006_4]) ?_ 3 _ rfl; (with_reducible repeat first | refine blk_drewN ?_ _ | refine blk_alloc ?_ _); refine blk_put (cs := #[.int .i64 a2_0, .int .i64 a2_1, .int .i64 x216002_4, .int .i64 x216003_4, .int .i64 x216004_4, .int .i64 x216005_4, .int .i64 x216006_4]) ?_ 2 _ rfl; (with_reducible repeat first | refine blk_drewN ?_ _ | refine blk_alloc ?_ _); refine blk_put (cs := #[.int .i64 a2_0, .int .i64 x216001_4, .int .i64 x216002_4, .int .i64 x216003_4, .int .i64 x216004_4, .int .i64 x216005_4, .int .i64 x216006_4]) ?_ 1 _ rfl; (with_reducible repeat first | refine blk_drewN ?_ _ | refine blk_alloc ?_ _); refine blk_put (cs := #[.int .i64 x216000_4, .int .i64 x216001_4, .int .i64 x216002_4, .int .i64 x216003_4, .int .i64 x216004_4, .int .i64 x216005_4, .int .i64 x216006_4]) ?_ 0 _ rfl; (with_reducible repeat first | refine blk_drewN ?_ _ | refine blk_alloc ?_ _); refine blk_far ?_ NB215_214.out _; (with_reducible repeat first | refine blk_drewN ?_ _ | refine blk_alloc ?_ _); exact BK215.out) Tryd.underlying23 rfl (by kernel_rfl)) rfl ?_
      exact ⟨by first | rfl | (simp [errW_none, errW_some] <;> rfl) | (simp [*, errW_none, errW_some] <;> rfl), by repeat (first | (with_reducible first | exact HB.out | apply below_alloc | apply pw_below_drewN | apply below_drew1 | refine below_set ?_ GE214.out | refine below_set ?_ GE215.out) | exact HB.out)⟩
     ·rw [if_neg c22] at H
      exact absurd H (by simp)
    ·rw [if_neg c21] at H
     exact absurd H (by simp)
   ·replace c20 := Bool.eq_false_iff.mpr c20
    subst c20
    have H1 : ((postbagref2_is.f l0 x1_4 115).bind fun t222 => (if t222 = true then (if 0 ≤ x1_4 then (if x1_4 < (l0.length : Int) then ((postbagref2_zoned.f kj4 ((rd_T95 l0 x1_4).f1)).bind fun bt224 => (if bt224.2 = true then (some (a2_0, a2_1, a2_2, a2_3, a2_4, x215005_4, bt224.1, ((wrap64 (x1_4 + 1)) == (l0.length : Int)))) else (some (a2_0, a2_1, a2_2, a2_3, a2_4, x215005_4, a2_6, false)))) else (none)) else (none)) else (some (a2_0, a2_1, a2_2, a2_3, a2_4, x215005_4, a2_6, (x1_4 == (l0.length : Int)))))) = some (r1, r2, r3, r4, r5, r6, r7, r8) := by rw [if_neg (show ¬ (false = true) by decide)] at H; exact H
    clear H
    have H := H1
    clear H1
    replace H := Option.bind_eq_some_iff.mp H
    obtain ⟨t222, A280, H⟩ := H
    replace H : (if t222 = true then (if 0 ≤ x1_4 then (if x1_4 < (l0.length : Int) then ((postbagref2_zoned.f kj4 ((rd_T95 l0 x1_4).f1)).bind fun bt224 => (if bt224.2 = true then (some (a2_0, a2_1, a2_2, a2_3, a2_4, x215005_4, bt224.1, ((wrap64 (x1_4 + 1)) == (l0.length : Int)))) else (some (a2_0, a2_1, a2_2, a2_3, a2_4, x215005_4, a2_6, false)))) else (none)) else (none)) else (some (a2_0, a2_1, a2_2, a2_3, a2_4, x215005_4, a2_6, (x1_4 == (l0.length : Int))))) = some (r1, r2, r3, r4, r5, r6, r7, r8) := H
    have A28 := Aside0.mk A280
    clear A280
    by_cases c29 : t222 = true
    ·subst c29
     have H1 : (if 0 ≤ x1_4 then (if x1_4 < (l0.length : Int) then ((postbagref2_zoned.f kj4 ((rd_T95 l0 x1_4).f1)).bind fun bt224 => (if bt224.2 = true then (some (a2_0, a2_1, a2_2, a2_3, a2_4, x215005_4, bt224.1, ((wrap64 (x1_4 + 1)) == (l0.length : Int)))) else (some (a2_0, a2_1, a2_2, a2_3, a2_4, x215005_4, a2_6, false)))) else (none)) else (none)) = some (r1, r2, r3, r4, r5, r6, r7, r8) := by rw [if_pos rfl] at H; exact H
     clear H
     have H := H1
     clear H1
     by_cases c30 : 0 ≤ x1_4
     ·rw [if_pos c30] at H
      have c30b0 : decide (0 ≤ x1_4) = true := decide_eq_true c30
      clear c30
      by_cases c31 : x1_4 < (l0.length : Int)
      ·rw [if_pos c31] at H
       have c31b0 : decide (x1_4 < (l0.length : Int)) = true := decide_eq_true c31
       clear c31
       replace H := Option.bind_eq_some_iff.mp H
       obtain ⟨⟨t224, t225⟩, A320, H⟩ := H
       replace H : (if t225 = true then (some (a2_0, a2_1, a2_2, a2_3, a2_4, x215005_4, t224, ((wrap64 (x1_4 + 1)) == (l0.length : Int)))) else (some (a2_0, a2_1, a2_2, a2_3, a2_4, x215005_4, a2_6, false))) = some (r1, r2, r3, r4, r5, r6, r7, r8) := H
       have A32 := Aside0.mk A320
       clear A320
       by_cases c33 : t225 = true
       ·subst c33
        have H1 : (some (a2_0, a2_1, a2_2, a2_3, a2_4, x215005_4, t224, ((wrap64 (x1_4 + 1)) == (l0.length : Int)))) = some (r1, r2, r3, r4, r5, r6, r7, r8) := by rw [if_pos rfl] at H; exact H
        clear H
        have H := H1
        clear H1
        simp only [Option.some.injEq, Prod.mk.injEq] at H
        obtain ⟨rfl, rfl, rfl, rfl, rfl, rfl, rfl, rfl⟩ := H
        go_wp2_with (first | ((with_reducible refine gate_callee (f := 102) rfl ?_); refine goesL_ (some 33) rfl rfl Tryd.func102 (by kernel_rfl) rfl #[.slice A0 l0.length c0, .int .i64 x1_4, .int .u8 97] rfl (by (try simp only [List.map_toArray, List.map_cons, List.map_nil]); first | done | rfl) ?_; (with_reducible refine (postbagref2_is.calls _ _ l0 x1_4 97 false _ ?side1 ?side2 A19.out).mono ?_); (case side1 => repeat (first | exact (Kd.C_below HR0.out HB.out) | (with_reducible refine Kd.C_alloc ?_ _) | (with_reducible refine Kd.C_drewN ?_ _) | (with_reducible refine Kd.C_drew ?_))); (case side2 => exact HC0.out); rintro e w' ⟨rfl, ⟨nd, rfl⟩⟩; refine ⟨_, rfl, ?_⟩; (try (rw [drewN_self wc]; generalize hq_ : World.drewN wc _ = wc; have n0_ : Aside0 (wc.heap[gb214]? = some (.cells #[.int .i64 a2_0, .int .i64 a2_1, .int .i64 a2_2, .int .i64 a2_3, .int .i64 a2_4, .int .i64 x215005_4, .int .i64 a2_6] 23 (0, 0))) := ⟨by rw [← hq_]; exact (by (with_reducible repeat first | refine blk_drewN ?_ _ | refine blk_alloc ?_ _); exact BK214.out)⟩; have n1_ : Aside0 (wc.heap[gb215]? = some (.cells #[.int .i64 x216000_4, .int .i64 x216001_4, .int .i64 x216002_4, .int .i64 x216003_4, .int .i64 x216004_4, .int .i64 x216005_4, .int .i64 x216006_4] 23 (0, 0))) := ⟨by rw [← hq_]; exact (by (with_reducible repeat first | refine blk_drewN ?_ _ | refine blk_alloc ?_ _); exact BK215.out)⟩; have n2_ : Aside0 (Below w.heap.size w wc) := ⟨by rw [← hq_]; exact (by repeat (first | (with_reducible first | exact HB.out | apply below_alloc | apply pw_below_drewN | apply below_drew1 | refine below_set ?_ GE214.out | refine below_set ?_ GE215.out) | exact HB.out))⟩; clear BK214 BK215 HB hq_; have BK214 := n0_; have BK215 := n1_; have HB := n2_; clear n0_ n1_ n2_))) | ((with_reducible refine gate_callee (f := 102) rfl ?_); refine goesL_ (some 45) rfl rfl Tryd.func102 (by kernel_rfl) rfl #[.slice A0 l0.length c0, .int .i64 x1_4, .int .u8 115] rfl (by (try simp only [List.map_toArray, List.map_cons, List.map_nil]); first | done | rfl) ?_; (with_reducible refine (postbagref2_is.calls _ _ l0 x1_4 115 true _ ?side1 ?side2 A28.out).mono ?_); (case side1 => repeat (first | exact (Kd.C_below HR0.out HB.out) | (with_reducible refine Kd.C_alloc ?_ _) | (with_reducible refine Kd.C_drewN ?_ _) | (with_reducible refine Kd.C_drew ?_))); (case side2 => exact HC0.out); rintro e w' ⟨rfl, ⟨nd, rfl⟩⟩; refine ⟨_, rfl, ?_⟩; (try (rw [drewN_self wc]; generalize hq_ : World.drewN wc _ = wc; have n0_ : Aside0 (wc.heap[gb214]? = some (.cells #[.int .i64 a2_0, .int .i64 a2_1, .int .i64 a2_2, .int .i64 a2_3, .int .i64 a2_4, .int .i64 x215005_4, .int .i64 a2_6] 23 (0, 0))) := ⟨by rw [← hq_]; exact (by (with_reducible repeat first | refine blk_drewN ?_ _ | refine blk_alloc ?_ _); exact BK214.out)⟩; have n1_ : Aside0 (wc.heap[gb215]? = some (.cells #[.int .i64 x216000_4, .int .i64 x216001_4, .int .i64 x216002_4, .int .i64 x216003_4, .int .i64 x216004_4, .int .i64 x216005_4, .int .i64 x216006_4] 23 (0, 0))) := ⟨by rw [← hq_]; exact (by (with_reducible repeat first | refine blk_drewN ?_ _ | refine blk_alloc ?_ _); exact BK215.out)⟩; have n2_ : Aside0 (Below w.heap.size w wc) := ⟨by rw [← hq_]; exact (by repeat (first | (with_reducible first | exact HB.out | apply below_alloc | apply pw_below_drewN | apply below_drew1 | refine below_set ?_ GE214.out | refine below_set ?_ GE215.out) | exact HB.out))⟩; clear BK214 BK215 HB hq_; have BK214 := n0_; have BK215 := n1_; have HB := n2_; clear n0_ n1_ n2_)); have p223 : 0 ≤ (x1_4 : Int) := of_decide_eq_true (by first | (with_reducible assumption) | assumption); have q223 : x1_4 < (l0.length : Int) := of_decide_eq_true (by first | (with_reducible assumption) | assumption); obtain ⟨ad223, e223, hx223_0, hx223_1⟩ := at_T95 HR0.out x1_4 p223 q223; cases e223; replace hx223_0 := (HB.out.cell (World.block_lt_of_cell? w _ hx223_0)).trans hx223_0; replace hx223_1 := (HB.out.cell (World.block_lt_of_cell? w _ hx223_1)).trans hx223_1; replace p223 := eq_true p223; replace q223 := eq_true q223) | ((with_reducible refine gate_callee (f := 76) rfl ?_); refine goesL_ (some 52) rfl rfl Tryd.func76 (by kernel_rfl) rfl #[.string ((rd_T95 l0 x1_4).f1)] rfl (by (try simp only [List.map_toArray, List.map_cons, List.map_nil]); first | done | rfl) ?_; (with_reducible refine (postbagref2_zoned.calls kj4 ((rd_T95 l0 x1_4).f1) t224 true _ A32.out).mono ?_); rintro e w' ⟨rfl, ⟨nd, rfl⟩⟩; refine ⟨_, rfl, ?_⟩; (try (rw [drewN_self wc]; generalize hq_ : World.drewN wc _ = wc; have n0_ : Aside0 (wc.heap[gb214]? = some (.cells #[.int .i64 a2_0, .int .i64 a2_1, .int .i64 a2_2, .int .i64 a2_3, .int .i64 a2_4, .int .i64 x215005_4, .int .i64 a2_6] 23 (0, 0))) := ⟨by rw [← hq_]; exact (by (with_reducible repeat first | refine blk_drewN ?_ _ | refine blk_alloc ?_ _); exact BK214.out)⟩; have n1_ : Aside0 (wc.heap[gb215]? = some (.cells #[.int .i64 x216000_4, .int .i64 x216001_4, .int .i64 x216002_4, .int .i64 x216003_4, .int .i64 x216004_4, .int .i64 x216005_4, .int .i64 x216006_4] 23 (0, 0))) := ⟨by rw [← hq_]; exact (by (with_reducible repeat first | refine blk_drewN ?_ _ | refine blk_alloc ?_ _); exact BK215.out)⟩; have n2_ : Aside0 (Below w.heap.size w wc) := ⟨by rw [← hq_]; exact (by repeat (first | (with_reducible first | exact HB.out | apply below_alloc | apply pw_below_drewN | apply below_drew1 | refine below_set ?_ GE214.out | refine below_set ?_ GE215.out) | exact HB.out))⟩; clear BK214 BK215 HB hq_; have BK214 := n0_; have BK215 := n1_; have HB := n2_; clear n0_ n1_ n2_)); have hnb34 := NB214_215.out; have hnc34 := NB215_214.out; have hcz35_0 : wc.cell? ⟨gb214, 0, none⟩ = some (.int .i64 a2_0) := (blk_cell BK214.out 0).trans rfl; have hcz35_1 : wc.cell? ⟨gb214, 1, none⟩ = some (.int .i64 a2_1) := (blk_cell BK214.out 1).trans rfl; have hcz35_2 : wc.cell? ⟨gb214, 2, none⟩ = some (.int .i64 a2_2) := (blk_cell BK214.out 2).trans rfl; have hcz35_3 : wc.cell? ⟨gb214, 3, none⟩ = some (.int .i64 a2_3) := (blk_cell BK214.out 3).trans rfl; have hcz35_4 : wc.cell? ⟨gb214, 4, none⟩ = some (.int .i64 a2_4) := (blk_cell BK214.out 4).trans rfl; have hcz35_5 : wc.cell? ⟨gb214, 5, none⟩ = some (.int .i64 x215005_4) := (blk_cell BK214.out 5).trans rfl; have hcz35_6 : wc.cell? ⟨gb214, 6, none⟩ = some (.int .i64 a2_6) := (blk_cell BK214.out 6).trans rfl; have hfz35_0 := blk_frozen BK214.out 0; have hfz35_1 := blk_frozen BK214.out 1; have hfz35_2 := blk_frozen BK214.out 2; have hfz35_3 := blk_frozen BK214.out 3; have hfz35_4 := blk_frozen BK214.out 4; have hfz35_5 := blk_frozen BK214.out 5; have hfz35_6 := blk_frozen BK214.out 6; have hcz36_0 : wc.cell? ⟨gb215, 0, none⟩ = some (.int .i64 x216000_4) := (blk_cell BK215.out 0).trans rfl; have hcz36_1 : wc.cell? ⟨gb215, 1, none⟩ = some (.int .i64 x216001_4) := (blk_cell BK215.out 1).trans rfl; have hcz36_2 : wc.cell? ⟨gb215, 2, none⟩ = some (.int .i64 x216002_4) := (blk_cell BK215.out 2).trans rfl; have hcz36_3 : wc.cell? ⟨gb215, 3, none⟩ = some (.int .i64 x216003_4) := (blk_cell BK215.out 3).trans rfl; have hcz36_4 : wc.cell? ⟨gb215, 4, none⟩ = some (.int .i64 x216004_4) := (blk_cell BK215.out 4).trans rfl; have hcz36_5 : wc.cell? ⟨gb215, 5, none⟩ = some (.int .i64 x216005_4) := (blk_cell BK215.out 5).trans rfl; have hcz36_6 : wc.cell? ⟨gb215, 6, none⟩ = some (.int .i64 x216006_4) := (blk_cell BK215.out 6).trans rfl; have hfz36_0 := blk_frozen BK215.out 0; have hfz36_1 := blk_frozen BK215.out 1; have hfz36_2 := blk_frozen BK215.out 2; have hfz36_3 := blk_frozen BK215.out 3; have hfz36_4 := blk_frozen BK215.out 4; have hfz36_5 := blk_frozen BK215.out 5; have hfz36_6 := blk_frozen BK215.out 6))
        refine bodyPost_ret (results_ct rfl _ _ gb215 23 #[.int .i64 a2_0, .int .i64 a2_1, .int .i64 a2_2, .int .i64 a2_3, .int .i64 a2_4, .int .i64 x215005_4, .int .i64 t224] (0, 0) _ rfl (by (with_reducible repeat first | refine blk_drewN ?_ _ | refine blk_alloc ?_ _); refine blk_put (cs := #[.int .i64 a2_0, .int .i64 a2_1, .int .i64 a2_2, .int .i64 a2_3, .int .i64 a2_4, .int .i64 x215005_4, .int .i64 x216006_4]) ?_ 6 _ rfl; (with_reducible repeat first | refine blk_drewN ?_ _ | refine blk_alloc ?_ _); refine blk_put (cs := #[.int .i64 a2_0, .int .i64 a2_1, .int .i64 a2_2, .int .i64 a2_3, .int .i64 a2_4, .int .i64 x216005_4, .int .i64 x216006_4]) ?_ 5 _ rfl; (with_reducible repeat first | refine blk_drewN ?_ _ | refine blk_alloc ?_ _); refine blk_put (cs := #[.int .i64 a2_0, .int .i64 a2_1, .int .i64 a2_2, .int .i64 a2_3, .int .i64 x216004_4, .int .i64 x216005_4, .int .i64 x216006_4]) ?_ 4 _ rfl; (with_reducible repeat first | refine blk_drewN ?_ _ | refine blk_alloc ?_ _); refine blk_put (cs := #[.int .i64 a2_0, .int .i64 a2_1, .int .i64 a2_2, .int .i64 x216003_4, .int .i64 x216004_4, .int .i64 x216005_4, .int .i64 x216006_4]) ?_ 3 _ rfl; (with_reducible repeat first | refine blk_drewN ?_ _ | refine blk_alloc ?_ _); refine blk_put (cs := #[.int .i64 a2_0, .int .i64 a2_1, .int .i64 x216002_4, .int .i64 x216003_4, .int .i64 x216004_4, .int .i64 x216005_4, .int .i64 x216006_4]) ?_ 2 _ rfl; (with_reducible repeat first | refine blk_drewN ?_ _ | refine blk_alloc ?_ _); refine blk_put (cs := #[.int .i64 a2_0, .int .i64 x216001_4, .int .i64 x216002_4, .int .i64 x216003_4, .int .i64 x216004_4, .int .i64 x216005_4, .int .i64 x216006_4]) ?_ 1 _ rfl; (with_reducible repeat first | refine blk_drewN ?_ _ | refine blk_alloc ?_ _); refine blk_put (cs := #[.int .i64 x216000_4, .int .i64 x216001_4, .int .i64 x216002_4, .int .i64 x216003_4, .int .i64 x216004_4, .int .i64 x216005_4, .int .i64 x216006_4]) ?_ 0 _ rfl; (with_reducible repeat first | refine blk_drewN ?_ _ | refine blk_alloc ?_ _); refine blk_far ?_ NB215_214.out _; (with_reducible repeat first | refine blk_drewN ?_ _ | refine blk_alloc ?_ _); exact BK215.out) Tryd.underlying23 rfl (by kernel_rfl)) rfl ?_
        exact ⟨by first | rfl | (simp [errW_none, errW_some] <;> rfl) | (simp [*, errW_none, errW_some] <;> rfl), by repeat (first | (with_reducible first | exact HB.out | apply below_alloc | apply pw_below_drewN | apply below_drew1 | refine below_set ?_ GE214.out | refine below_set ?_ GE215.out) | exact HB.out)⟩
       ·replace c33 := Bool.eq_false_iff.mpr c33
        subst c33
        have H1 : (some (a2_0, a2_1, a2_2, a2_3, a2_4, x215005_4, a2_6, false)) = some (r1, r2, r3, r4, r5, r6, r7, r8) := by rw [if_neg (show ¬ (false = true) by decide)] at H; exact H
        clear H
        have H := H1
        clear H1
        simp only [Option.some.injEq, Prod.mk.injEq] at H
        obtain ⟨rfl, rfl, rfl, rfl, rfl, rfl, rfl, rfl⟩ := H
        go_wp2_with (first | ((with_reducible refine gate_callee (f := 102) rfl ?_); refine goesL_ (some 33) rfl rfl Tryd.func102 (by kernel_rfl) rfl #[.slice A0 l0.length c0, .int .i64 x1_4, .int .u8 97] rfl (by (try simp only [List.map_toArray, List.map_cons, List.map_nil]); first | done | rfl) ?_; (with_reducible refine (postbagref2_is.calls _ _ l0 x1_4 97 false _ ?side1 ?side2 A19.out).mono ?_); (case side1 => repeat (first | exact (Kd.C_below HR0.out HB.out) | (with_reducible refine Kd.C_alloc ?_ _) | (with_reducible refine Kd.C_drewN ?_ _) | (with_reducible refine Kd.C_drew ?_))); (case side2 => exact HC0.out); rintro e w' ⟨rfl, ⟨nd, rfl⟩⟩; refine ⟨_, rfl, ?_⟩; (try (rw [drewN_self wc]; generalize hq_ : World.drewN wc _ = wc; have n0_ : Aside0 (wc.heap[gb214]? = some (.cells #[.int .i64 a2_0, .int .i64 a2_1, .int .i64 a2_2, .int .i64 a2_3, .int .i64 a2_4, .int .i64 x215005_4, .int .i64 a2_6] 23 (0, 0))) := ⟨by rw [← hq_]; exact (by (with_reducible repeat first | refine blk_drewN ?_ _ | refine blk_alloc ?_ _); exact BK214.out)⟩; have n1_ : Aside0 (wc.heap[gb215]? = some (.cells #[.int .i64 x216000_4, .int .i64 x216001_4, .int .i64 x216002_4, .int .i64 x216003_4, .int .i64 x216004_4, .int .i64 x216005_4, .int .i64 x216006_4] 23 (0, 0))) := ⟨by rw [← hq_]; exact (by (with_reducible repeat first | refine blk_drewN ?_ _ | refine blk_alloc ?_ _); exact BK215.out)⟩; have n2_ : Aside0 (Below w.heap.size w wc) := ⟨by rw [← hq_]; exact (by repeat (first | (with_reducible first | exact HB.out | apply below_alloc | apply pw_below_drewN | apply below_drew1 | refine below_set ?_ GE214.out | refine below_set ?_ GE215.out) | exact HB.out))⟩; clear BK214 BK215 HB hq_; have BK214 := n0_; have BK215 := n1_; have HB := n2_; clear n0_ n1_ n2_))) | ((with_reducible refine gate_callee (f := 102) rfl ?_); refine goesL_ (some 45) rfl rfl Tryd.func102 (by kernel_rfl) rfl #[.slice A0 l0.length c0, .int .i64 x1_4, .int .u8 115] rfl (by (try simp only [List.map_toArray, List.map_cons, List.map_nil]); first | done | rfl) ?_; (with_reducible refine (postbagref2_is.calls _ _ l0 x1_4 115 true _ ?side1 ?side2 A28.out).mono ?_); (case side1 => repeat (first | exact (Kd.C_below HR0.out HB.out) | (with_reducible refine Kd.C_alloc ?_ _) | (with_reducible refine Kd.C_drewN ?_ _) | (with_reducible refine Kd.C_drew ?_))); (case side2 => exact HC0.out); rintro e w' ⟨rfl, ⟨nd, rfl⟩⟩; refine ⟨_, rfl, ?_⟩; (try (rw [drewN_self wc]; generalize hq_ : World.drewN wc _ = wc; have n0_ : Aside0 (wc.heap[gb214]? = some (.cells #[.int .i64 a2_0, .int .i64 a2_1, .int .i64 a2_2, .int .i64 a2_3, .int .i64 a2_4, .int .i64 x215005_4, .int .i64 a2_6] 23 (0, 0))) := ⟨by rw [← hq_]; exact (by (with_reducible repeat first | refine blk_drewN ?_ _ | refine blk_alloc ?_ _); exact BK214.out)⟩; have n1_ : Aside0 (wc.heap[gb215]? = some (.cells #[.int .i64 x216000_4, .int .i64 x216001_4, .int .i64 x216002_4, .int .i64 x216003_4, .int .i64 x216004_4, .int .i64 x216005_4, .int .i64 x216006_4] 23 (0, 0))) := ⟨by rw [← hq_]; exact (by (with_reducible repeat first | refine blk_drewN ?_ _ | refine blk_alloc ?_ _); exact BK215.out)⟩; have n2_ : Aside0 (Below w.heap.size w wc) := ⟨by rw [← hq_]; exact (by repeat (first | (with_reducible first | exact HB.out | apply below_alloc | apply pw_below_drewN | apply below_drew1 | refine below_set ?_ GE214.out | refine below_set ?_ GE215.out) | exact HB.out))⟩; clear BK214 BK215 HB hq_; have BK214 := n0_; have BK215 := n1_; have HB := n2_; clear n0_ n1_ n2_)); have p223 : 0 ≤ (x1_4 : Int) := of_decide_eq_true (by first | (with_reducible assumption) | assumption); have q223 : x1_4 < (l0.length : Int) := of_decide_eq_true (by first | (with_reducible assumption) | assumption); obtain ⟨ad223, e223, hx223_0, hx223_1⟩ := at_T95 HR0.out x1_4 p223 q223; cases e223; replace hx223_0 := (HB.out.cell (World.block_lt_of_cell? w _ hx223_0)).trans hx223_0; replace hx223_1 := (HB.out.cell (World.block_lt_of_cell? w _ hx223_1)).trans hx223_1; replace p223 := eq_true p223; replace q223 := eq_true q223) | ((with_reducible refine gate_callee (f := 76) rfl ?_); refine goesL_ (some 52) rfl rfl Tryd.func76 (by kernel_rfl) rfl #[.string ((rd_T95 l0 x1_4).f1)] rfl (by (try simp only [List.map_toArray, List.map_cons, List.map_nil]); first | done | rfl) ?_; (with_reducible refine (postbagref2_zoned.calls kj4 ((rd_T95 l0 x1_4).f1) t224 false _ A32.out).mono ?_); rintro e w' ⟨rfl, ⟨nd, rfl⟩⟩; refine ⟨_, rfl, ?_⟩; (try (rw [drewN_self wc]; generalize hq_ : World.drewN wc _ = wc; have n0_ : Aside0 (wc.heap[gb214]? = some (.cells #[.int .i64 a2_0, .int .i64 a2_1, .int .i64 a2_2, .int .i64 a2_3, .int .i64 a2_4, .int .i64 x215005_4, .int .i64 a2_6] 23 (0, 0))) := ⟨by rw [← hq_]; exact (by (with_reducible repeat first | refine blk_drewN ?_ _ | refine blk_alloc ?_ _); exact BK214.out)⟩; have n1_ : Aside0 (wc.heap[gb215]? = some (.cells #[.int .i64 x216000_4, .int .i64 x216001_4, .int .i64 x216002_4, .int .i64 x216003_4, .int .i64 x216004_4, .int .i64 x216005_4, .int .i64 x216006_4] 23 (0, 0))) := ⟨by rw [← hq_]; exact (by (with_reducible repeat first | refine blk_drewN ?_ _ | refine blk_alloc ?_ _); exact BK215.out)⟩; have n2_ : Aside0 (Below w.heap.size w wc) := ⟨by rw [← hq_]; exact (by repeat (first | (with_reducible first | exact HB.out | apply below_alloc | apply pw_below_drewN | apply below_drew1 | refine below_set ?_ GE214.out | refine below_set ?_ GE215.out) | exact HB.out))⟩; clear BK214 BK215 HB hq_; have BK214 := n0_; have BK215 := n1_; have HB := n2_; clear n0_ n1_ n2_)); have hnb37 := NB214_215.out; have hnc37 := NB215_214.out; have hcz38_0 : wc.cell? ⟨gb214, 0, none⟩ = some (.int .i64 a2_0) := (blk_cell BK214.out 0).trans rfl; have hcz38_1 : wc.cell? ⟨gb214, 1, none⟩ = some (.int .i64 a2_1) := (blk_cell BK214.out 1).trans rfl; have hcz38_2 : wc.cell? ⟨gb214, 2, none⟩ = some (.int .i64 a2_2) := (blk_cell BK214.out 2).trans rfl; have hcz38_3 : wc.cell? ⟨gb214, 3, none⟩ = some (.int .i64 a2_3) := (blk_cell BK214.out 3).trans rfl; have hcz38_4 : wc.cell? ⟨gb214, 4, none⟩ = some (.int .i64 a2_4) := (blk_cell BK214.out 4).trans rfl; have hcz38_5 : wc.cell? ⟨gb214, 5, none⟩ = some (.int .i64 x215005_4) := (blk_cell BK214.out 5).trans rfl; have hcz38_6 : wc.cell? ⟨gb214, 6, none⟩ = some (.int .i64 a2_6) := (blk_cell BK214.out 6).trans rfl; have hfz38_0 := blk_frozen BK214.out 0; have hfz38_1 := blk_frozen BK214.out 1; have hfz38_2 := blk_frozen BK214.out 2; have hfz38_3 := blk_frozen BK214.out 3; have hfz38_4 := blk_frozen BK214.out 4; have hfz38_5 := blk_frozen BK214.out 5; have hfz38_6 := blk_frozen BK214.out 6; have hcz39_0 : wc.cell? ⟨gb215, 0, none⟩ = some (.int .i64 x216000_4) := (blk_cell BK215.out 0).trans rfl; have hcz39_1 : wc.cell? ⟨gb215, 1, none⟩ = some (.int .i64 x216001_4) := (blk_cell BK215.out 1).trans rfl; have hcz39_2 : wc.cell? ⟨gb215, 2, none⟩ = some (.int .i64 x216002_4) := (blk_cell BK215.out 2).trans rfl; have hcz39_3 : wc.cell? ⟨gb215, 3, none⟩ = some (.int .i64 x216003_4) := (blk_cell BK215.out 3).trans rfl; have hcz39_4 : wc.cell? ⟨gb215, 4, none⟩ = some (.int .i64 x216004_4) := (blk_cell BK215.out 4).trans rfl; have hcz39_5 : wc.cell? ⟨gb215, 5, none⟩ = some (.int .i64 x216005_4) := (blk_cell BK215.out 5).trans rfl; have hcz39_6 : wc.cell? ⟨gb215, 6, none⟩ = some (.int .i64 x216006_4) := (blk_cell BK215.out 6).trans rfl; have hfz39_0 := blk_frozen BK215.out 0; have hfz39_1 := blk_frozen BK215.out 1; have hfz39_2 := blk_frozen BK215.out 2; have hfz39_3 := blk_frozen BK215.out 3; have hfz39_4 := blk_frozen BK215.out 4; have hfz39_5 := blk_frozen BK215.out 5; have hfz39_6 := blk_frozen BK215.out 6))
        refine bodyPost_ret (results_ct rfl _ _ gb215 23 #[.int .i64 a2_0, .int .i64 a2_1, .int .i64 a2_2, .int .i64 a2_3, .int .i64 a2_4, .int .i64 x215005_4, .int .i64 a2_6] (0, 0) _ rfl (by (with_reducible repeat first | refine blk_drewN ?_ _ | refine blk_alloc ?_ _); refine blk_put (cs := #[.int .i64 a2_0, .int .i64 a2_1, .int .i64 a2_2, .int .i64 a2_3, .int .i64 a2_4, .int .i64 x215005_4, .int .i64 x216006_4]) ?_ 6 _ rfl; (with_reducible repeat first | refine blk_drewN ?_ _ | refine blk_alloc ?_ _); refine blk_put (cs := #[.int .i64 a2_0, .int .i64 a2_1, .int .i64 a2_2, .int .i64 a2_3, .int .i64 a2_4, .int .i64 x216005_4, .int .i64 x216006_4]) ?_ 5 _ rfl; (with_reducible repeat first | refine blk_drewN ?_ _ | refine blk_alloc ?_ _); refine blk_put (cs := #[.int .i64 a2_0, .int .i64 a2_1, .int .i64 a2_2, .int .i64 a2_3, .int .i64 x216004_4, .int .i64 x216005_4, .int .i64 x216006_4]) ?_ 4 _ rfl; (with_reducible repeat first | refine blk_drewN ?_ _ | refine blk_alloc ?_ _); refine blk_put (cs := #[.int .i64 a2_0, .int .i64 a2_1, .int .i64 a2_2, .int .i64 x216003_4, .int .i64 x216004_4, .int .i64 x216005_4, .int .i64 x216006_4]) ?_ 3 _ rfl; (with_reducible repeat first | refine blk_drewN ?_ _ | refine blk_alloc ?_ _); refine blk_put (cs := #[.int .i64 a2_0, .int .i64 a2_1, .int .i64 x216002_4, .int .i64 x216003_4, .int .i64 x216004_4, .int .i64 x216005_4, .int .i64 x216006_4]) ?_ 2 _ rfl; (with_reducible repeat first | refine blk_drewN ?_ _ | refine blk_alloc ?_ _); refine blk_put (cs := #[.int .i64 a2_0, .int .i64 x216001_4, .int .i64 x216002_4, .int .i64 x216003_4, .int .i64 x216004_4, .int .i64 x216005_4, .int .i64 x216006_4]) ?_ 1 _ rfl; (with_reducible repeat first | refine blk_drewN ?_ _ | refine blk_alloc ?_ _); refine blk_put (cs := #[.int .i64 x216000_4, .int .i64 x216001_4, .int .i64 x216002_4, .int .i64 x216003_4, .int .i64 x216004_4, .int .i64 x216005_4, .int .i64 x216006_4]) ?_ 0 _ rfl; (with_reducible repeat first | refine blk_drewN ?_ _ | refine blk_alloc ?_ _); exact BK215.out) Tryd.underlying23 rfl (by kernel_rfl)) rfl ?_
        exact ⟨by first | rfl | (simp [errW_none, errW_some] <;> rfl) | (simp [*, errW_none, errW_some] <;> rfl), by repeat (first | (with_reducible first | exact HB.out | apply below_alloc | apply pw_below_drewN | apply below_drew1 | refine below_set ?_ GE214.out | refine below_set ?_ GE215.out) | exact HB.out)⟩
      ·rw [if_neg c31] at H
       exact absurd H (by simp)
     ·rw [if_neg c30] at H
      exact absurd H (by simp)
    ·replace c29 := Bool.eq_false_iff.mpr c29
     subst c29
     have H1 : (some (a2_0, a2_1, a2_2, a2_3, a2_4, x215005_4, a2_6, (x1_4 == (l0.length : Int)))) = some (r1, r2, r3, r4, r5, r6, r7, r8) := by rw [if_neg (show ¬ (false = true) by decide)] at H; exact H
     clear H
     have H := H1
     clear H1
     simp only [Option.some.injEq, Prod.mk.injEq] at H
     obtain ⟨rfl, rfl, rfl, rfl, rfl, rfl, rfl, rfl⟩ := H
     go_wp2_with (first | ((with_reducible refine gate_callee (f := 102) rfl ?_); refine goesL_ (some 33) rfl rfl Tryd.func102 (by kernel_rfl) rfl #[.slice A0 l0.length c0, .int .i64 x1_4, .int .u8 97] rfl (by (try simp only [List.map_toArray, List.map_cons, List.map_nil]); first | done | rfl) ?_; (with_reducible refine (postbagref2_is.calls _ _ l0 x1_4 97 false _ ?side1 ?side2 A19.out).mono ?_); (case side1 => repeat (first | exact (Kd.C_below HR0.out HB.out) | (with_reducible refine Kd.C_alloc ?_ _) | (with_reducible refine Kd.C_drewN ?_ _) | (with_reducible refine Kd.C_drew ?_))); (case side2 => exact HC0.out); rintro e w' ⟨rfl, ⟨nd, rfl⟩⟩; refine ⟨_, rfl, ?_⟩; (try (rw [drewN_self wc]; generalize hq_ : World.drewN wc _ = wc; have n0_ : Aside0 (wc.heap[gb214]? = some (.cells #[.int .i64 a2_0, .int .i64 a2_1, .int .i64 a2_2, .int .i64 a2_3, .int .i64 a2_4, .int .i64 x215005_4, .int .i64 a2_6] 23 (0, 0))) := ⟨by rw [← hq_]; exact (by (with_reducible repeat first | refine blk_drewN ?_ _ | refine blk_alloc ?_ _); exact BK214.out)⟩; have n1_ : Aside0 (wc.heap[gb215]? = some (.cells #[.int .i64 x216000_4, .int .i64 x216001_4, .int .i64 x216002_4, .int .i64 x216003_4, .int .i64 x216004_4, .int .i64 x216005_4, .int .i64 x216006_4] 23 (0, 0))) := ⟨by rw [← hq_]; exact (by (with_reducible repeat first | refine blk_drewN ?_ _ | refine blk_alloc ?_ _); exact BK215.out)⟩; have n2_ : Aside0 (Below w.heap.size w wc) := ⟨by rw [← hq_]; exact (by repeat (first | (with_reducible first | exact HB.out | apply below_alloc | apply pw_below_drewN | apply below_drew1 | refine below_set ?_ GE214.out | refine below_set ?_ GE215.out) | exact HB.out))⟩; clear BK214 BK215 HB hq_; have BK214 := n0_; have BK215 := n1_; have HB := n2_; clear n0_ n1_ n2_))) | ((with_reducible refine gate_callee (f := 102) rfl ?_); refine goesL_ (some 45) rfl rfl Tryd.func102 (by kernel_rfl) rfl #[.slice A0 l0.length c0, .int .i64 x1_4, .int .u8 115] rfl (by (try simp only [List.map_toArray, List.map_cons, List.map_nil]); first | done | rfl) ?_; (with_reducible refine (postbagref2_is.calls _ _ l0 x1_4 115 false _ ?side1 ?side2 A28.out).mono ?_); (case side1 => repeat (first | exact (Kd.C_below HR0.out HB.out) | (with_reducible refine Kd.C_alloc ?_ _) | (with_reducible refine Kd.C_drewN ?_ _) | (with_reducible refine Kd.C_drew ?_))); (case side2 => exact HC0.out); rintro e w' ⟨rfl, ⟨nd, rfl⟩⟩; refine ⟨_, rfl, ?_⟩; (try (rw [drewN_self wc]; generalize hq_ : World.drewN wc _ = wc; have n0_ : Aside0 (wc.heap[gb214]? = some (.cells #[.int .i64 a2_0, .int .i64 a2_1, .int .i64 a2_2, .int .i64 a2_3, .int .i64 a2_4, .int .i64 x215005_4, .int .i64 a2_6] 23 (0, 0))) := ⟨by rw [← hq_]; exact (by (with_reducible repeat first | refine blk_drewN ?_ _ | refine blk_alloc ?_ _); exact BK214.out)⟩; have n1_ : Aside0 (wc.heap[gb215]? = some (.cells #[.int .i64 x216000_4, .int .i64 x216001_4, .int .i64 x216002_4, .int .i64 x216003_4, .int .i64 x216004_4, .int .i64 x216005_4, .int .i64 x216006_4] 23 (0, 0))) := ⟨by rw [← hq_]; exact (by (with_reducible repeat first | refine blk_drewN ?_ _ | refine blk_alloc ?_ _); exact BK215.out)⟩; have n2_ : Aside0 (Below w.heap.size w wc) := ⟨by rw [← hq_]; exact (by repeat (first | (with_reducible first | exact HB.out | apply below_alloc | apply pw_below_drewN | apply below_drew1 | refine below_set ?_ GE214.out | refine below_set ?_ GE215.out) | exact HB.out))⟩; clear BK214 BK215 HB hq_; have BK214 := n0_; have BK215 := n1_; have HB := n2_; clear n0_ n1_ n2_)); have hnb40 := NB214_215.out; have hnc40 := NB215_214.out; have hcz41_0 : wc.cell? ⟨gb214, 0, none⟩ = some (.int .i64 a2_0) := (blk_cell BK214.out 0).trans rfl; have hcz41_1 : wc.cell? ⟨gb214, 1, none⟩ = some (.int .i64 a2_1) := (blk_cell BK214.out 1).trans rfl; have hcz41_2 : wc.cell? ⟨gb214, 2, none⟩ = some (.int .i64 a2_2) := (blk_cell BK214.out 2).trans rfl; have hcz41_3 : wc.cell? ⟨gb214, 3, none⟩ = some (.int .i64 a2_3) := (blk_cell BK214.out 3).trans rfl; have hcz41_4 : wc.cell? ⟨gb214, 4, none⟩ = some (.int .i64 a2_4) := (blk_cell BK214.out 4).trans rfl; have hcz41_5 : wc.cell? ⟨gb214, 5, none⟩ = some (.int .i64 x215005_4) := (blk_cell BK214.out 5).trans rfl; have hcz41_6 : wc.cell? ⟨gb214, 6, none⟩ = some (.int .i64 a2_6) := (blk_cell BK214.out 6).trans rfl; have hfz41_0 := blk_frozen BK214.out 0; have hfz41_1 := blk_frozen BK214.out 1; have hfz41_2 := blk_frozen BK214.out 2; have hfz41_3 := blk_frozen BK214.out 3; have hfz41_4 := blk_frozen BK214.out 4; have hfz41_5 := blk_frozen BK214.out 5; have hfz41_6 := blk_frozen BK214.out 6; have hcz42_0 : wc.cell? ⟨gb215, 0, none⟩ = some (.int .i64 x216000_4) := (blk_cell BK215.out 0).trans rfl; have hcz42_1 : wc.cell? ⟨gb215, 1, none⟩ = some (.int .i64 x216001_4) := (blk_cell BK215.out 1).trans rfl; have hcz42_2 : wc.cell? ⟨gb215, 2, none⟩ = some (.int .i64 x216002_4) := (blk_cell BK215.out 2).trans rfl; have hcz42_3 : wc.cell? ⟨gb215, 3, none⟩ = some (.int .i64 x216003_4) := (blk_cell BK215.out 3).trans rfl; have hcz42_4 : wc.cell? ⟨gb215, 4, none⟩ = some (.int .i64 x216004_4) := (blk_cell BK215.out 4).trans rfl; have hcz42_5 : wc.cell? ⟨gb215, 5, none⟩ = some (.int .i64 x216005_4) := (blk_cell BK215.out 5).trans rfl; have hcz42_6 : wc.cell? ⟨gb215, 6, none⟩ = some (.int .i64 x216006_4) := (blk_cell BK215.out 6).trans rfl; have hfz42_0 := blk_frozen BK215.out 0; have hfz42_1 := blk_frozen BK215.out 1; have hfz42_2 := blk_frozen BK215.out 2; have hfz42_3 := blk_frozen BK215.out 3; have hfz42_4 := blk_frozen BK215.out 4; have hfz42_5 := blk_frozen BK215.out 5; have hfz42_6 := blk_frozen BK215.out 6))
     refine bodyPost_ret (results_ct rfl _ _ gb215 23 #[.int .i64 a2_0, .int .i64 a2_1, .int .i64 a2_2, .int .i64 a2_3, .int .i64 a2_4, .int .i64 x215005_4, .int .i64 a2_6] (0, 0) _ rfl (by (with_reducible repeat first | refine blk_drewN ?_ _ | refine blk_alloc ?_ _); refine blk_put (cs := #[.int .i64 a2_0, .int .i64 a2_1, .int .i64 a2_2, .int .i64 a2_3, .int .i64 a2_4, .int .i64 x215005_4, .int .i64 x216006_4]) ?_ 6 _ rfl; (with_reducible repeat first | refine blk_drewN ?_ _ | refine blk_alloc ?_ _); refine blk_put (cs := #[.int .i64 a2_0, .int .i64 a2_1, .int .i64 a2_2, .int .i64 a2_3, .int .i64 a2_4, .int .i64 x216005_4, .int .i64 x216006_4]) ?_ 5 _ rfl; (with_reducible repeat first | refine blk_drewN ?_ _ | refine blk_alloc ?_ _); refine blk_put (cs := #[.int .i64 a2_0, .int .i64 a2_1, .int .i64 a2_2, .int .i64 a2_3, .int .i64 x216004_4, .int .i64 x216005_4, .int .i64 x216006_4]) ?_ 4 _ rfl; (with_reducible repeat first | refine blk_drewN ?_ _ | refine blk_alloc ?_ _); refine blk_put (cs := #[.int .i64 a2_0, .int .i64 a2_1, .int .i64 a2_2, .int .i64 x216003_4, .int .i64 x216004_4, .int .i64 x216005_4, .int .i64 x216006_4]) ?_ 3 _ rfl; (with_reducible repeat first | refine blk_drewN ?_ _ | refine blk_alloc ?_ _); refine blk_put (cs := #[.int .i64 a2_0, .int .i64 a2_1, .int .i64 x216002_4, .int .i64 x216003_4, .int .i64 x216004_4, .int .i64 x216005_4, .int .i64 x216006_4]) ?_ 2 _ rfl; (with_reducible repeat first | refine blk_drewN ?_ _ | refine blk_alloc ?_ _); refine blk_put (cs := #[.int .i64 a2_0, .int .i64 x216001_4, .int .i64 x216002_4, .int .i64 x216003_4, .int .i64 x216004_4, .int .i64 x216005_4, .int .i64 x216006_4]) ?_ 1 _ rfl; (with_reducible repeat first | refine blk_drewN ?_ _ | refine blk_alloc ?_ _); refine blk_put (cs := #[.int .i64 x216000_4, .int .i64 x216001_4, .int .i64 x216002_4, .int .i64 x216003_4, .int .i64 x216004_4, .int .i64 x216005_4, .int .i64 x216006_4]) ?_ 0 _ rfl; (with_reducible repeat first | refine blk_drewN ?_ _ | refine blk_alloc ?_ _); exact BK215.out) Tryd.underlying23 rfl (by kernel_rfl)) rfl ?_
     exact ⟨by first | rfl | (simp [errW_none, errW_some] <;> rfl) | (simp [*, errW_none, errW_some] <;> rfl), by repeat (first | (with_reducible first | exact HB.out | apply below_alloc | apply pw_below_drewN | apply below_drew1 | refine below_set ?_ GE214.out | refine below_set ?_ GE215.out) | exact HB.out)⟩
end Go.Proofs.YtjlchnmpebdggaaDoor.Mo
end
section
namespace Go.Proofs.YtjlchnmpebdggaaDoor.Mo
open Go.RowKit Go.Proofs.YtjlchnmpebdggaaDoorW.PrintWords Go.Proofs.YtjlchnmpebdggaaDoorW.PrintLast Go.Proofs.YtjlchnmpebdggaaDoorW.PrintMore
attribute [local go_sem] max2_int min2_int max_two min_two max_three min_three max_four min_four   -- for this text's walks alone
set_option linter.unusedVariables false
set_option linter.unusedSimpArgs false
mutual
def postbagref2_skip.l0 : Nat → ByteArray → Int → Int → Option (Int)
 | 0, _, _, _ => none
 | k + 1, x0, x1, x5 => if x1 < (x0.size : Int) then (if 0 ≤ x1 then (if (bt x0 x1) = 40 then (postbagref2_skip.l0 k x0 (wrap64 (x1 + 1)) (wrap64 (x5 + 1))) else (if x5 > 0 then (postbagref2_skip.j1 k x0 x1 x5 (bt x0 x1) ((bt x0 x1) == 41)) else (postbagref2_skip.j1 k x0 x1 x5 (bt x0 x1) false))) else (none)) else (some (x0.size : Int))
def postbagref2_skip.j1 : Nat → ByteArray → Int → Int → Int → Bool → Option (Int)
 | 0, _, _, _, _, _ => none
 | k + 1, x0, x1, x5, x6, x23 => if x23 = true then (postbagref2_skip.l0 k x0 (wrap64 (x1 + 1)) (wrap64 (x5 - 1))) else (if x5 > 0 then (postbagref2_skip.j2 k x0 x1 x5 x6 (x6 == 92)) else (postbagref2_skip.j2 k x0 x1 x5 x6 false))
def postbagref2_skip.j2 : Nat → ByteArray → Int → Int → Int → Bool → Option (Int)
 | 0, _, _, _, _, _ => none
 | k + 1, x0, x1, x5, x6, x31 => if x31 = true then (postbagref2_skip.l0 k x0 (wrap64 ((wrap64 (x1 + 1)) + 1)) x5) else (if x5 = 0 then (if x6 = 32 then (postbagref2_skip.l0 k x0 (wrap64 (x1 + 1)) x5) else (if x6 = 9 then (postbagref2_skip.l0 k x0 (wrap64 (x1 + 1)) x5) else (if x6 = 13 then (postbagref2_skip.l0 k x0 (wrap64 (x1 + 1)) x5) else (if x6 = 10 then (postbagref2_skip.l0 k x0 (wrap64 (x1 + 1)) x5) else (some x1))))) else (postbagref2_skip.l0 k x0 (wrap64 (x1 + 1)) x5))
end
def postbagref2_skip.f (k : Nat) (a0 : ByteArray) (a1 : Int) : Option (Int) := postbagref2_skip.l0 k a0 a1 0
set_option maxHeartbeats 8000000 in
set_option maxRecDepth 100000 in
theorem postbagref2_skip.calls (k : Nat) (a0 : ByteArray) (a1 : Int) (r : Int) (w : World) (h : postbagref2_skip.f k a0 a1 = some r) :
  Calls Tryd.prog 98 #[.string a0, .int .i64 a1] w fun e w' => e = .returned (.int .i64 r) ∧ Drawn0 w w' := by
 have H : (postbagref2_skip.l0 k a0 a1 0) = some r := h
 clear h
 have H' := Aside0.mk H
 clear H
 go_enter Tryd.func98, Tryd.ntmps98
 go_wp2
 go_loopg [1, 5] k (fun kq v1 v5 w' => ∃ (x1_1 : Int) (x5_1 : Int), v1 = .int .i64 x1_1 ∧ v5 = .int .i64 x5_1 ∧ Aside0 (postbagref2_skip.l0 kq a0 x1_1 x5_1 = some r) ∧ Aside0 (kq ≤ k) ∧ Drawn0 w w')
 case atStart => exact ⟨(a1), (0), (by first | rfl | (simp; done) | (simp [*]; done)), (by first | rfl | (simp; done) | (simp [*]; done)), H', ⟨Nat.le_refl _⟩, by repeat (first | exact Drawn0.refl _ | apply Drawn0.step)⟩
 case round =>
  clear H'
  try clear p2
  obtain ⟨x1_1, x5_1, rfl, rfl, HA, HK1, ⟨m1, rfl⟩⟩ := hrel
  cases gk with
  | zero => exact absurd HA.out (by simp [postbagref2_skip.l0])
  | succ k1 =>
   have H := HA.out
   clear HA
   simp only [postbagref2_skip.l0] at H
   by_cases c3 : x1_1 < (a0.size : Int)
   ·rw [if_pos c3] at H
    have c3b0 : decide (x1_1 < (a0.size : Int)) = true := decide_eq_true c3
    clear c3
    by_cases c4 : 0 ≤ x1_1
    ·rw [if_pos c4] at H
     have c4b0 : decide (0 ≤ x1_1) = true := decide_eq_true c4
     clear c4
     by_cases c6 : (bt a0 x1_1) = 40
     ·rw [if_pos c6] at H
      have c6b0 : ((bt a0 x1_1) == 40) = true := beq_iff_eq.mpr c6
      have c6b1 : ((bt a0 x1_1) != 40) = false := bne_eq_false_iff_eq.mpr c6
      clear c6
      have H' := Aside0.mk H
      clear H
      have p5 : 0 ≤ (x1_1 : Int) := of_decide_eq_true (by first | (with_reducible assumption) | assumption)
      have q5 : x1_1 < (a0.size : Int) := of_decide_eq_true (by first | (with_reducible assumption) | assumption)
      have hx5 := bt_at a0 x1_1
      replace p5 := eq_true p5
      replace q5 := eq_true q5
      go_wp2
      go_roundg k1
      case measure => have := HK1.out; omega
      case rel => exact ⟨(wrap64 (x1_1 + 1)), (wrap64 (x5_1 + 1)), (by first | rfl | (simp; done) | (simp [*]; done)), (by first | rfl | (simp; done) | (simp [*]; done)), H', ⟨by have := HK1.out; omega⟩, by repeat (first | exact Drawn0.refl _ | apply Drawn0.step)⟩
     ·rw [if_neg c6] at H
      have c6b0 : ((bt a0 x1_1) == 40) = false := beq_eq_false_iff_ne.mpr c6
      have c6b1 : ((bt a0 x1_1) != 40) = true := bne_iff_ne.mpr c6
      have HC7 := Aside0.mk H
      clear H
      have p5 : 0 ≤ (x1_1 : Int) := of_decide_eq_true (by first | (with_reducible assumption) | assumption)
      have q5 : x1_1 < (a0.size : Int) := of_decide_eq_true (by first | (with_reducible assumption) | assumption)
      have hx5 := bt_at a0 x1_1
      replace p5 := eq_true p5
      replace q5 := eq_true q5
      go_upto_region 6 with (fail)
      go_cut [23] (fun v23 wc => ∃ (kq : Nat) (x23_6 : Bool), v23 = .bool x23_6 ∧ Aside0 (postbagref2_skip.j1 kq a0 x1_1 x5_1 (bt a0 x1_1) x23_6 = some r) ∧ Aside0 (kq ≤ k1) ∧ Drawn0 w wc)
      case first =>
       have H := HC7.out
       clear HC7
       by_cases c8 : x5_1 > 0
       ·rw [if_pos c8] at H
        have c8b0 : decide (0 < x5_1) = true := decide_eq_true c8
        clear c8
        (first | rw [c8b0] | (simp only [i64_w, i32_w]; rw [c8b0]) | skip)
        have H' := Aside0.mk H
        clear H
        go_wp2
        go_meet
        case rel => exact ⟨_, (((bt a0 x1_1) == 41)), (by first | rfl | (simp; done) | (simp [*]; done)), H', ⟨by have := HK1.out; first | omega | exact Nat.le_refl _⟩, by repeat (first | exact Drawn0.refl _ | apply Drawn0.step)⟩
       ·rw [if_neg c8] at H
        have c8b0 : decide (0 < x5_1) = false := decide_eq_false c8
        clear c8
        (first | rw [c8b0] | (simp only [i64_w, i32_w]; rw [c8b0]) | skip)
        have H' := Aside0.mk H
        clear H
        go_wp2
        go_meet
        case rel => exact ⟨_, (false), (by first | rfl | (simp; done) | (simp [*]; done)), H', ⟨by have := HK1.out; first | omega | exact Nat.le_refl _⟩, by repeat (first | exact Drawn0.refl _ | apply Drawn0.step)⟩
      case rest =>
       clear HC7
       try clear p2
       try clear c3
       try clear c3b0
       try clear c4
       try clear c4b0
       try clear p5
       try clear q5
       try clear hx5
       try clear c6
       try clear c6b0
       try clear c6b1
       try clear p6
       try clear c8
       try clear c8b0
       try clear p2
       try clear p5
       try clear q5
       obtain ⟨kq, x23_6, rfl, HA, HJ6, ⟨mc6, rfl⟩⟩ := hcut
       cases kq with
       | zero => exact absurd HA.out (by simp [postbagref2_skip.j1])
       | succ kj6 =>
        have H := HA.out
        clear HA
        simp only [postbagref2_skip.j1] at H
        by_cases c9 : x23_6 = true
        ·subst c9
         have H1 : (postbagref2_skip.l0 kj6 a0 (wrap64 (x1_1 + 1)) (wrap64 (x5_1 - 1))) = some r := by rw [if_pos rfl] at H; exact H
         clear H
         have H := H1
         clear H1
         have H' := Aside0.mk H
         clear H
         go_wp2
         go_roundg kj6
         case measure => have := HK1.out; have := HJ6.out; omega
         case rel => exact ⟨(wrap64 (x1_1 + 1)), (wrap64 (x5_1 - 1)), (by first | rfl | (simp; done) | (simp [*]; done)), (by first | rfl | (simp; done) | (simp [*]; done)), H', ⟨by have := HK1.out; have := HJ6.out; omega⟩, by repeat (first | exact Drawn0.refl _ | apply Drawn0.step)⟩
        ·replace c9 := Bool.eq_false_iff.mpr c9
         subst c9
         have H1 : (if x5_1 > 0 then (postbagref2_skip.j2 kj6 a0 x1_1 x5_1 (bt a0 x1_1) ((bt a0 x1_1) == 92)) else (postbagref2_skip.j2 kj6 a0 x1_1 x5_1 (bt a0 x1_1) false)) = some r := by rw [if_neg (show ¬ (false = true) by decide)] at H; exact H
         clear H
         have H := H1
         clear H1
         have HC10 := Aside0.mk H
         clear H
         go_upto_region 8 with (fail)
         go_cut [31] (fun v31 wc => ∃ (kq : Nat) (x31_9 : Bool), v31 = .bool x31_9 ∧ Aside0 (postbagref2_skip.j2 kq a0 x1_1 x5_1 (bt a0 x1_1) x31_9 = some r) ∧ Aside0 (kq ≤ kj6) ∧ Drawn0 w wc)
         case first =>
          have H := HC10.out
          clear HC10
          by_cases c11 : x5_1 > 0
          ·rw [if_pos c11] at H
           have c11b0 : decide (0 < x5_1) = true := decide_eq_true c11
           clear c11
           (first | rw [c11b0] | (simp only [i64_w, i32_w]; rw [c11b0]) | skip)
           have H' := Aside0.mk H
           clear H
           go_wp2
           go_meet
           case rel => exact ⟨_, (((bt a0 x1_1) == 92)), (by first | rfl | (simp; done) | (simp [*]; done)), H', ⟨by have := HK1.out; have := HJ6.out; first | omega | exact Nat.le_refl _⟩, by repeat (first | exact Drawn0.refl _ | apply Drawn0.step)⟩
          ·rw [if_neg c11] at H
           have c11b0 : decide (0 < x5_1) = false := decide_eq_false c11
           clear c11
           (first | rw [c11b0] | (simp only [i64_w, i32_w]; rw [c11b0]) | skip)
           have H' := Aside0.mk H
           clear H
           go_wp2
           go_meet
           case rel => exact ⟨_, (false), (by first | rfl | (simp; done) | (simp [*]; done)), H', ⟨by have := HK1.out; have := HJ6.out; first | omega | exact Nat.le_refl _⟩, by repeat (first | exact Drawn0.refl _ | apply Drawn0.step)⟩
         case rest =>
          clear HC10
          try clear c1
          try clear p2
          try clear c3
          try clear c3b0
          try clear c4
          try clear c4b0
          try clear p5
          try clear q5
          try clear hx5
          try clear c6
          try clear c6b0
          try clear c6b1
          try clear p6
          try clear c8
          try clear c8b0
          try clear c9
          try clear c11
          try clear c11b0
          try clear p2
          try clear p5
          try clear p6
          try clear q5
          obtain ⟨kq, x31_9, rfl, HA, HJ9, ⟨mc9, rfl⟩⟩ := hcut
          cases kq with
          | zero => exact absurd HA.out (by simp [postbagref2_skip.j2])
          | succ kj9 =>
           have H := HA.out
           clear HA
           simp only [postbagref2_skip.j2] at H
           by_cases c12 : x31_9 = true
           ·subst c12
            have H1 : (postbagref2_skip.l0 kj9 a0 (wrap64 ((wrap64 (x1_1 + 1)) + 1)) x5_1) = some r := by rw [if_pos rfl] at H; exact H
            clear H
            have H := H1
            clear H1
            have H' := Aside0.mk H
            clear H
            go_wp2
            go_roundg kj9
            case measure => have := HK1.out; have := HJ6.out; have := HJ9.out; omega
            case rel => exact ⟨(wrap64 ((wrap64 (x1_1 + 1)) + 1)), (x5_1), (by first | rfl | (simp; done) | (simp [*]; done)), (by first | rfl | (simp; done) | (simp [*]; done)), H', ⟨by have := HK1.out; have := HJ6.out; have := HJ9.out; omega⟩, by repeat (first | exact Drawn0.refl _ | apply Drawn0.step)⟩
           ·replace c12 := Bool.eq_false_iff.mpr c12
            subst c12
            have H1 : (if x5_1 = 0 then (if (bt a0 x1_1) = 32 then (postbagref2_skip.l0 kj9 a0 (wrap64 (x1_1 + 1)) x5_1) else (if (bt a0 x1_1) = 9 then (postbagref2_skip.l0 kj9 a0 (wrap64 (x1_1 + 1)) x5_1) else (if (bt a0 x1_1) = 13 then (postbagref2_skip.l0 kj9 a0 (wrap64 (x1_1 + 1)) x5_1) else (if (bt a0 x1_1) = 10 then (postbagref2_skip.l0 kj9 a0 (wrap64 (x1_1 + 1)) x5_1) else (some x1_1))))) else (postbagref2_skip.l0 kj9 a0 (wrap64 (x1_1 + 1)) x5_1)) = some r := by rw [if_neg (show ¬ (false = true) by decide)] at H; exact H
            clear H
            have H := H1
            clear H1
            by_cases c13 : x5_1 = 0
            ·rw [if_pos c13] at H
             have c13b0 : (x5_1 == 0) = true := beq_iff_eq.mpr c13
             have c13b1 : (x5_1 != 0) = false := bne_eq_false_iff_eq.mpr c13
             clear c13
             by_cases c14 : (bt a0 x1_1) = 32
             ·rw [if_pos c14] at H
              have c14b0 : ((bt a0 x1_1) == 32) = true := beq_iff_eq.mpr c14
              have c14b1 : ((bt a0 x1_1) != 32) = false := bne_eq_false_iff_eq.mpr c14
              clear c14
              have H' := Aside0.mk H
              clear H
              go_wp2
              go_roundg kj9
              case measure => have := HK1.out; have := HJ6.out; have := HJ9.out; omega
              case rel => exact ⟨(wrap64 (x1_1 + 1)), (x5_1), (by first | rfl | (simp; done) | (simp [*]; done)), (by first | rfl | (simp; done) | (simp [*]; done)), H', ⟨by have := HK1.out; have := HJ6.out; have := HJ9.out; omega⟩, by repeat (first | exact Drawn0.refl _ | apply Drawn0.step)⟩
             ·rw [if_neg c14] at H
              have c14b0 : ((bt a0 x1_1) == 32) = false := beq_eq_false_iff_ne.mpr c14
              have c14b1 : ((bt a0 x1_1) != 32) = true := bne_iff_ne.mpr c14
              by_cases c15 : (bt a0 x1_1) = 9
              ·rw [if_pos c15] at H
               have c15b0 : ((bt a0 x1_1) == 9) = true := beq_iff_eq.mpr c15
               have c15b1 : ((bt a0 x1_1) != 9) = false := bne_eq_false_iff_eq.mpr c15
               clear c15
               have H' := Aside0.mk H
               clear H
               go_wp2
               go_roundg kj9
               case measure => have := HK1.out; have := HJ6.out; have := HJ9.out; omega
               case rel => exact ⟨(wrap64 (x1_1 + 1)), (x5_1), (by first | rfl | (simp; done) | (simp [*]; done)), (by first | rfl | (simp; done) | (simp [*]; done)), H', ⟨by have := HK1.out; have := HJ6.out; have := HJ9.out; omega⟩, by repeat (first | exact Drawn0.refl _ | apply Drawn0.step)⟩
              ·rw [if_neg c15] at H
               have c15b0 : ((bt a0 x1_1) == 9) = false := beq_eq_false_iff_ne.mpr c15
               have c15b1 : ((bt a0 x1_1) != 9) = true := bne_iff_ne.mpr c15
               by_cases c16 : (bt a0 x1_1) = 13
               ·rw [if_pos c16] at H
                have c16b0 : ((bt a0 x1_1) == 13) = true := beq_iff_eq.mpr c16
                have c16b1 : ((bt a0 x1_1) != 13) = false := bne_eq_false_iff_eq.mpr c16
                clear c16
                have H' := Aside0.mk H
                clear H
                go_wp2
                go_roundg kj9
                case measure => have := HK1.out; have := HJ6.out; have := HJ9.out; omega
                case rel => exact ⟨(wrap64 (x1_1 + 1)), (x5_1), (by first | rfl | (simp; done) | (simp [*]; done)), (by first | rfl | (simp; done) | (simp [*]; done)), H', ⟨by have := HK1.out; have := HJ6.out; have := HJ9.out; omega⟩, by repeat (first | exact Drawn0.refl _ | apply Drawn0.step)⟩
               ·rw [if_neg c16] at H
                have c16b0 : ((bt a0 x1_1) == 13) = false := beq_eq_false_iff_ne.mpr c16
                have c16b1 : ((bt a0 x1_1) != 13) = true := bne_iff_ne.mpr c16
                by_cases c17 : (bt a0 x1_1) = 10
                ·rw [if_pos c17] at H
                 have c17b0 : ((bt a0 x1_1) == 10) = true := beq_iff_eq.mpr c17
                 have c17b1 : ((bt a0 x1_1) != 10) = false := bne_eq_false_iff_eq.mpr c17
                 clear c17
                 have H' := Aside0.mk H
                 clear H
                 go_wp2
                 go_roundg kj9
                 case measure => have := HK1.out; have := HJ6.out; have := HJ9.out; omega
                 case rel => exact ⟨(wrap64 (x1_1 + 1)), (x5_1), (by first | rfl | (simp; done) | (simp [*]; done)), (by first | rfl | (simp; done) | (simp [*]; done)), H', ⟨by have := HK1.out; have := HJ6.out; have := HJ9.out; omega⟩, by repeat (first | exact Drawn0.refl _ | apply Drawn0.step)⟩
                ·rw [if_neg c17] at H
                 have c17b0 : ((bt a0 x1_1) == 10) = false := beq_eq_false_iff_ne.mpr c17
                 have c17b1 : ((bt a0 x1_1) != 10) = true := bne_iff_ne.mpr c17
                 obtain rfl := Option.some.inj H
                 go_wp2
                 go_ret
                 exact ⟨by first | rfl | (simp; done) | (simp [*]; done), by repeat (first | exact Drawn0.refl _ | apply Drawn0.step)⟩
            ·rw [if_neg c13] at H
             have c13b0 : (x5_1 == 0) = false := beq_eq_false_iff_ne.mpr c13
             have c13b1 : (x5_1 != 0) = true := bne_iff_ne.mpr c13
             have H' := Aside0.mk H
             clear H
             go_wp2
             go_roundg kj9
             case measure => have := HK1.out; have := HJ6.out; have := HJ9.out; omega
             case rel => exact ⟨(wrap64 (x1_1 + 1)), (x5_1), (by first | rfl | (simp; done) | (simp [*]; done)), (by first | rfl | (simp; done) | (simp [*]; done)), H', ⟨by have := HK1.out; have := HJ6.out; have := HJ9.out; omega⟩, by repeat (first | exact Drawn0.refl _ | apply Drawn0.step)⟩
    ·rw [if_neg c4] at H
     exact absurd H (by simp)
   ·rw [if_neg c3] at H
    have c3b0 : decide (x1_1 < (a0.size : Int)) = false := decide_eq_false c3
    clear c3
    obtain rfl := Option.some.inj H
    go_wp2
    go_ret
    exact ⟨by first | rfl | (simp; done) | (simp [*]; done), by repeat (first | exact Drawn0.refl _ | apply Drawn0.step)⟩
def postbagref2_isLetter.f (a0 : Int) : Option (Bool) := if a0 ≥ 97 then (if a0 ≤ 122 then (some true) else (if a0 ≥ 65 then (some (decide (a0 ≤ 90))) else (some false))) else (if a0 ≥ 65 then (some (decide (a0 ≤ 90))) else (some false))
set_option maxHeartbeats 8000000 in
set_option maxRecDepth 100000 in
theorem postbagref2_isLetter.calls (a0 : Int) (r : Bool) (w : World) (h : postbagref2_isLetter.f a0 = some r) :
  Calls Tryd.prog 99 #[.int .u8 a0] w fun e w' => e = .returned (.bool r) ∧ Drawn0 w w' := by
 have H : (if a0 ≥ 97 then (if a0 ≤ 122 then (some true) else (if a0 ≥ 65 then (some (decide (a0 ≤ 90))) else (some false))) else (if a0 ≥ 65 then (some (decide (a0 ≤ 90))) else (some false))) = some r := h
 clear h
 refine (Classical.em (a0 ≥ 97)).elim (fun c2 => ?p2) (fun c2 => ?n2)
 case' p2 =>
  rw [if_pos c2] at H
  have c2b0 : decide (97 ≤ a0) = true := decide_eq_true c2
  clear c2
  refine (Classical.em (a0 ≤ 122)).elim (fun c3 => ?p3) (fun c3 => ?n3)
  case' p3 =>
   rw [if_pos c3] at H
   have c3b0 : decide (a0 ≤ 122) = true := decide_eq_true c3
   clear c3
   obtain rfl := Option.some.inj H
  case' n3 =>
   rw [if_neg c3] at H
   have c3b0 : decide (a0 ≤ 122) = false := decide_eq_false c3
   clear c3
   refine (Classical.em (a0 ≥ 65)).elim (fun c4 => ?p4) (fun c4 => ?n4)
   case' p4 =>
    rw [if_pos c4] at H
    have c4b0 : decide (65 ≤ a0) = true := decide_eq_true c4
    clear c4
    obtain rfl := Option.some.inj H
   case' n4 =>
    rw [if_neg c4] at H
    have c4b0 : decide (65 ≤ a0) = false := decide_eq_false c4
    clear c4
    obtain rfl := Option.some.inj H
 case' n2 =>
  rw [if_neg c2] at H
  have c2b0 : decide (97 ≤ a0) = false := decide_eq_false c2
  clear c2
  refine (Classical.em (a0 ≥ 65)).elim (fun c5 => ?p5) (fun c5 => ?n5)
  case' p5 =>
   rw [if_pos c5] at H
   have c5b0 : decide (65 ≤ a0) = true := decide_eq_true c5
   clear c5
   obtain rfl := Option.some.inj H
  case' n5 =>
   rw [if_neg c5] at H
   have c5b0 : decide (65 ≤ a0) = false := decide_eq_false c5
   clear c5
   obtain rfl := Option.some.inj H
 all_goals
  go_enter Tryd.func99, Tryd.ntmps99
  go_wp2
  go_ret
  exact ⟨by first | rfl | (simp; done) | (simp [*]; done), by repeat (first | exact Drawn0.refl _ | apply Drawn0.step)⟩
def postbagref2_isDigit.f (a0 : Int) : Option (Bool) := if a0 ≥ 48 then (some (decide (a0 ≤ 57))) else (some false)
set_option maxHeartbeats 8000000 in
set_option maxRecDepth 100000 in
theorem postbagref2_isDigit.calls (a0 : Int) (r : Bool) (w : World) (h : postbagref2_isDigit.f a0 = some r) :
  Calls Tryd.prog 101 #[.int .u8 a0] w fun e w' => e = .returned (.bool r) ∧ Drawn0 w w' := by
 have H : (if a0 ≥ 48 then (some (decide (a0 ≤ 57))) else (some false)) = some r := h
 clear h
 refine (Classical.em (a0 ≥ 48)).elim (fun c2 => ?p2) (fun c2 => ?n2)
 case' p2 =>
  rw [if_pos c2] at H
  have c2b0 : decide (48 ≤ a0) = true := decide_eq_true c2
  clear c2
  obtain rfl := Option.some.inj H
 case' n2 =>
  rw [if_neg c2] at H
  have c2b0 : decide (48 ≤ a0) = false := decide_eq_false c2
  clear c2
  obtain rfl := Option.some.inj H
 all_goals
  go_enter Tryd.func101, Tryd.ntmps101
  go_wp2
  go_ret
  exact ⟨by first | rfl | (simp; done) | (simp [*]; done), by repeat (first | exact Drawn0.refl _ | apply Drawn0.step)⟩
def postbagref2_run.l0 : Nat → ByteArray → Int → Bool → Option (Int)
 | 0, _, _, _ => none
 | k + 1, x0, x1, x2 => if x1 < (x0.size : Int) then (if x2 = true then (if 0 ≤ x1 then ((postbagref2_isDigit.f (bt x0 x1)).bind fun t189 => (if t189 = true then (postbagref2_run.l0 k x0 (wrap64 (x1 + 1)) x2) else (some x1))) else (none)) else (if 0 ≤ x1 then ((postbagref2_isLetter.f (bt x0 x1)).bind fun t190 => (if t190 = true then (postbagref2_run.l0 k x0 (wrap64 (x1 + 1)) x2) else (some x1))) else (none))) else (some x1)
def postbagref2_run.f (k : Nat) (a0 : ByteArray) (a1 : Int) (a2 : Bool) : Option (Int) := postbagref2_run.l0 k a0 a1 a2
set_option maxHeartbeats 8000000 in
set_option maxRecDepth 100000 in
theorem postbagref2_run.calls (k : Nat) (a0 : ByteArray) (a1 : Int) (a2 : Bool) (r : Int) (w : World) (h : postbagref2_run.f k a0 a1 a2 = some r) :
  Calls Tryd.prog 100 #[.string a0, .int .i64 a1, .bool a2] w fun e w' => e = .returned (.int .i64 r) ∧ Drawn0 w w' := by
 have H : (postbagref2_run.l0 k a0 a1 a2) = some r := h
 clear h
 have H' := Aside0.mk H
 clear H
 go_enter Tryd.func100, Tryd.ntmps100
 go_wp2
 go_loopg [1] k (fun kq v1 w' => ∃ (x1_1 : Int), v1 = .int .i64 x1_1 ∧ Aside0 (postbagref2_run.l0 kq a0 x1_1 a2 = some r) ∧ Aside0 (kq ≤ k) ∧ Drawn0 w w')
 case atStart => exact ⟨(a1), (by first | rfl | (simp; done) | (simp [*]; done)), H', ⟨Nat.le_refl _⟩, by repeat (first | exact Drawn0.refl _ | apply Drawn0.step)⟩
 case round =>
  clear H'
  try clear c1
  try clear p2
  obtain ⟨x1_1, rfl, HA, HK1, ⟨m1, rfl⟩⟩ := hrel
  cases gk with
  | zero => exact absurd HA.out (by simp [postbagref2_run.l0])
  | succ k1 =>
   have H := HA.out
   clear HA
   simp only [postbagref2_run.l0] at H
   by_cases c4 : x1_1 < (a0.size : Int)
   ·rw [if_pos c4] at H
    have c4b0 : decide (x1_1 < (a0.size : Int)) = true := decide_eq_true c4
    clear c4
    by_cases c5 : a2 = true
    ·subst c5
     have H1 : (if 0 ≤ x1_1 then ((postbagref2_isDigit.f (bt a0 x1_1)).bind fun t189 => (if t189 = true then (postbagref2_run.l0 k1 a0 (wrap64 (x1_1 + 1)) true) else (some x1_1))) else (none)) = some r := by rw [if_pos rfl] at H; exact H
     clear H
     have H := H1
     clear H1
     by_cases c6 : 0 ≤ x1_1
     ·rw [if_pos c6] at H
      have c6b0 : decide (0 ≤ x1_1) = true := decide_eq_true c6
      clear c6
      replace H := Option.bind_eq_some_iff.mp H
      obtain ⟨t189, A80, H⟩ := H
      replace H : (if t189 = true then (postbagref2_run.l0 k1 a0 (wrap64 (x1_1 + 1)) true) else (some x1_1)) = some r := H
      have A8 := Aside0.mk A80
      clear A80
      by_cases c9 : t189 = true
      ·subst c9
       have H1 : (postbagref2_run.l0 k1 a0 (wrap64 (x1_1 + 1)) true) = some r := by rw [if_pos rfl] at H; exact H
       clear H
       have H := H1
       clear H1
       have H' := Aside0.mk H
       clear H
       have p7 : 0 ≤ (x1_1 : Int) := of_decide_eq_true (by first | (with_reducible assumption) | assumption)
       have q7 : x1_1 < (a0.size : Int) := of_decide_eq_true (by first | (with_reducible assumption) | assumption)
       have hx7 := bt_at a0 x1_1
       replace p7 := eq_true p7
       replace q7 := eq_true q7
       go_wp2_with (first | (go_at_call 101; (with_reducible refine (postbagref2_isDigit.calls (bt a0 x1_1) true _ A8.out).mono ?_); rintro e w' ⟨rfl, ⟨nd, rfl⟩⟩))
       go_roundg k1
       case measure => have := HK1.out; omega
       case rel => exact ⟨(wrap64 (x1_1 + 1)), (by first | rfl | (simp; done) | (simp [*]; done)), H', ⟨by have := HK1.out; omega⟩, by repeat (first | exact Drawn0.refl _ | apply Drawn0.step)⟩
      ·replace c9 := Bool.eq_false_iff.mpr c9
       subst c9
       have H1 : (some x1_1) = some r := by rw [if_neg (show ¬ (false = true) by decide)] at H; exact H
       clear H
       have H := H1
       clear H1
       obtain rfl := Option.some.inj H
       have p7 : 0 ≤ (x1_1 : Int) := of_decide_eq_true (by first | (with_reducible assumption) | assumption)
       have q7 : x1_1 < (a0.size : Int) := of_decide_eq_true (by first | (with_reducible assumption) | assumption)
       have hx7 := bt_at a0 x1_1
       replace p7 := eq_true p7
       replace q7 := eq_true q7
       go_wp2_with (first | (go_at_call 101; (with_reducible refine (postbagref2_isDigit.calls (bt a0 x1_1) false _ A8.out).mono ?_); rintro e w' ⟨rfl, ⟨nd, rfl⟩⟩))
       go_ret
       exact ⟨by first | rfl | (simp; done) | (simp [*]; done), by repeat (first | exact Drawn0.refl _ | apply Drawn0.step)⟩
     ·rw [if_neg c6] at H
      exact absurd H (by simp)
    ·replace c5 := Bool.eq_false_iff.mpr c5
     subst c5
     have H1 : (if 0 ≤ x1_1 then ((postbagref2_isLetter.f (bt a0 x1_1)).bind fun t190 => (if t190 = true then (postbagref2_run.l0 k1 a0 (wrap64 (x1_1 + 1)) false) else (some x1_1))) else (none)) = some r := by rw [if_neg (show ¬ (false = true) by decide)] at H; exact H
     clear H
     have H := H1
     clear H1
     by_cases c10 : 0 ≤ x1_1
     ·rw [if_pos c10] at H
      have c10b0 : decide (0 ≤ x1_1) = true := decide_eq_true c10
      clear c10
      replace H := Option.bind_eq_some_iff.mp H
      obtain ⟨t190, A120, H⟩ := H
      replace H : (if t190 = true then (postbagref2_run.l0 k1 a0 (wrap64 (x1_1 + 1)) false) else (some x1_1)) = some r := H
      have A12 := Aside0.mk A120
      clear A120
      by_cases c13 : t190 = true
      ·subst c13
       have H1 : (postbagref2_run.l0 k1 a0 (wrap64 (x1_1 + 1)) false) = some r := by rw [if_pos rfl] at H; exact H
       clear H
       have H := H1
       clear H1
       have H' := Aside0.mk H
       clear H
       have p11 : 0 ≤ (x1_1 : Int) := of_decide_eq_true (by first | (with_reducible assumption) | assumption)
       have q11 : x1_1 < (a0.size : Int) := of_decide_eq_true (by first | (with_reducible assumption) | assumption)
       have hx11 := bt_at a0 x1_1
       replace p11 := eq_true p11
       replace q11 := eq_true q11
       go_wp2_with (first | (go_at_call 99; (with_reducible refine (postbagref2_isLetter.calls (bt a0 x1_1) true _ A12.out).mono ?_); rintro e w' ⟨rfl, ⟨nd, rfl⟩⟩))
       go_roundg k1
       case measure => have := HK1.out; omega
       case rel => exact ⟨(wrap64 (x1_1 + 1)), (by first | rfl | (simp; done) | (simp [*]; done)), H', ⟨by have := HK1.out; omega⟩, by repeat (first | exact Drawn0.refl _ | apply Drawn0.step)⟩
      ·replace c13 := Bool.eq_false_iff.mpr c13
       subst c13
       have H1 : (some x1_1) = some r := by rw [if_neg (show ¬ (false = true) by decide)] at H; exact H
       clear H
       have H := H1
       clear H1
       obtain rfl := Option.some.inj H
       have p11 : 0 ≤ (x1_1 : Int) := of_decide_eq_true (by first | (with_reducible assumption) | assumption)
       have q11 : x1_1 < (a0.size : Int) := of_decide_eq_true (by first | (with_reducible assumption) | assumption)
       have hx11 := bt_at a0 x1_1
       replace p11 := eq_true p11
       replace q11 := eq_true q11
       go_wp2_with (first | (go_at_call 99; (with_reducible refine (postbagref2_isLetter.calls (bt a0 x1_1) false _ A12.out).mono ?_); rintro e w' ⟨rfl, ⟨nd, rfl⟩⟩))
       go_ret
       exact ⟨by first | rfl | (simp; done) | (simp [*]; done), by repeat (first | exact Drawn0.refl _ | apply Drawn0.step)⟩
     ·rw [if_neg c10] at H
      exact absurd H (by simp)
   ·rw [if_neg c4] at H
    have c4b0 : decide (x1_1 < (a0.size : Int)) = false := decide_eq_false c4
    clear c4
    obtain rfl := Option.some.inj H
    go_wp2
    go_ret
    exact ⟨by first | rfl | (simp; done) | (simp [*]; done), by repeat (first | exact Drawn0.refl _ | apply Drawn0.step)⟩
end Go.Proofs.YtjlchnmpebdggaaDoor.Mo
end
