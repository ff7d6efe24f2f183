/- Printed by wip/myprint.py of this session over the kit's print.py: the contract of a Go function (what a plain Lean function says, the call does). -/
import Derived.Test.YtidcchopmbodkaaDoorSp0
import Derived.Test.YtidcchopmbodkaaDoorSp1
import Derived.Test.YtidcchopmbodkaaDoorHs
import Derived.Test.YtidcchopmbodkaaDoorPPostbaglaw4Known
namespace Go.Proofs.YtidcchopmbodkaaDoor.Sp
open Go.RowKit Go.Proofs.YtidcchopmbodkaaDoorW.PrintWords Go.Proofs.YtidcchopmbodkaaDoorW.PrintLast Go.Proofs.YtidcchopmbodkaaDoorW.PrintMore
attribute [local go_sem] max2_int min2_int max_two min_two max_three min_three max_four min_four   -- for this text's walks alone
set_option linter.unusedVariables false
set_option linter.unusedSimpArgs false
/-! ### postbaglaw4_SpanEither: function 12 -/
mutual
def postbaglaw4_SpanEither.j0 : Nat → List (S28) → Int → Int → Bool → Option (Bool)
 | 0, _, _, _, _ => none
 | k + 1, x0, x2, x3, x38 => if x38 = true then (some false) else (postbaglaw4_SpanEither.l0 k x0 x2 x3 0)
def postbaglaw4_SpanEither.l0 : Nat → List (S28) → Int → Int → Int → Option (Bool)
 | 0, _, _, _, _ => none
 | k + 1, x0, x2, x3, x10 => if x10 < (x0.length : Int) then (postbaglaw4_SpanEither.j2 k x0 x2 x3 x10 (decide (x10 < 200))) else (postbaglaw4_SpanEither.j2 k x0 x2 x3 x10 false)
def postbaglaw4_SpanEither.j2 : Nat → List (S28) → Int → Int → Int → Bool → Option (Bool)
 | 0, _, _, _, _, _ => none
 | k + 1, x0, x2, x3, x10, x46 => if x46 = true then (if 0 ≤ x10 then (if x10 < (x0.length : Int) then ((span_Has.f (([(⟨(rd_T28 x0 x10).f0, (rd_T28 x0 x10).f1⟩ : S28)] : List (S28))) x2 x3).bind fun t489 => ((span_Has.f (([(⟨(rd_T28 x0 x10).f1, (rd_T28 x0 x10).f0⟩ : S28)] : List (S28))) x2 x3).bind fun t493 => (if (t489 != t493) = true then (postbaglaw4_SpanEither.j3 k x0 x2 x3 x10 t489 true ((rd_T28 x0 x10).f0) ((rd_T28 x0 x10).f1)) else (if t489 = true then ((span_Has.f x0 x2 x3).bind fun t494 => (postbaglaw4_SpanEither.j3 k x0 x2 x3 x10 t489 (!t494) ((rd_T28 x0 x10).f0) ((rd_T28 x0 x10).f1))) else (postbaglaw4_SpanEither.j3 k x0 x2 x3 x10 t489 false ((rd_T28 x0 x10).f0) ((rd_T28 x0 x10).f1)))))) else (none)) else (none)) else ((postbaglaw4_known.f k).bind fun t483 => (some t483))
def postbaglaw4_SpanEither.j3 : Nat → List (S28) → Int → Int → Int → Bool → Bool → Int → Int → Option (Bool)
 | 0, _, _, _, _, _, _, _, _ => none
 | k + 1, x0, x2, x3, x10, x12, x78, x486000, x486001 => if x78 = true then (some false) else (if x486000 = 0 then (if x3 ≥ 1 then (if x3 ≤ 4294967295 then ((span_Has.f (([(⟨x3, x486001⟩ : S28)] : List (S28))) x2 x3).bind fun t498 => (postbaglaw4_SpanEither.j4 k x0 x2 x3 x10 x12 (x12 != t498) x486000 x486001)) else (postbaglaw4_SpanEither.j4 k x0 x2 x3 x10 x12 false x486000 x486001)) else (postbaglaw4_SpanEither.j4 k x0 x2 x3 x10 x12 false x486000 x486001)) else (postbaglaw4_SpanEither.j4 k x0 x2 x3 x10 x12 false x486000 x486001))
def postbaglaw4_SpanEither.j4 : Nat → List (S28) → Int → Int → Int → Bool → Bool → Int → Int → Option (Bool)
 | 0, _, _, _, _, _, _, _, _ => none
 | k + 1, x0, x2, x3, x10, x12, x101, x486000, x486001 => if x101 = true then (some false) else (if x12 = true then (if x2 < 1 then (some false) else (if x3 < 1 then (some false) else (if x486000 < 0 then (some false) else (if x486001 < 0 then (some false) else (postbaglaw4_SpanEither.l0 k x0 x2 x3 (wrap64 (x10 + 1))))))) else (postbaglaw4_SpanEither.l0 k x0 x2 x3 (wrap64 (x10 + 1))))
end
def postbaglaw4_SpanEither.f (k : Nat) (l0 : List (S28)) (l1 : List (S28)) (a2 : Int) (a3 : Int) : Option (Bool) := if (wrap64 ((l0.length : Int) + (l1.length : Int))) > 3000 then (some true) else ((some (([] : List (S28)) : List (S28))).bind fun y471 => (if y471.length + l0.length < 8796093022208 then ((some (y471 ++ l0 : List (S28))).bind fun y474 => (if y474.length + l1.length < 8796093022208 then ((span_Has.f (y474 ++ l1) a2 a3).bind fun t480 => ((span_Has.f l0 a2 a3).bind fun t481 => (if t481 = true then (postbaglaw4_SpanEither.j0 k l0 a2 a3 (t480 != true)) else ((span_Has.f l1 a2 a3).bind fun t482 => (postbaglaw4_SpanEither.j0 k l0 a2 a3 (t480 != t482)))))) else (none))) else (none)))
theorem postbaglaw4_SpanEither.mono_l : ∀ k, (∀ y0 y1 y2 y3, LeO (postbaglaw4_SpanEither.j0 k y0 y1 y2 y3) (postbaglaw4_SpanEither.j0 (k + 1) y0 y1 y2 y3)) ∧ (∀ y0 y1 y2 y3, LeO (postbaglaw4_SpanEither.l0 k y0 y1 y2 y3) (postbaglaw4_SpanEither.l0 (k + 1) y0 y1 y2 y3)) ∧ (∀ y0 y1 y2 y3 y4, LeO (postbaglaw4_SpanEither.j2 k y0 y1 y2 y3 y4) (postbaglaw4_SpanEither.j2 (k + 1) y0 y1 y2 y3 y4)) ∧ (∀ y0 y1 y2 y3 y4 y5 y6 y7, LeO (postbaglaw4_SpanEither.j3 k y0 y1 y2 y3 y4 y5 y6 y7) (postbaglaw4_SpanEither.j3 (k + 1) y0 y1 y2 y3 y4 y5 y6 y7)) ∧ (∀ y0 y1 y2 y3 y4 y5 y6 y7, LeO (postbaglaw4_SpanEither.j4 k y0 y1 y2 y3 y4 y5 y6 y7) (postbaglaw4_SpanEither.j4 (k + 1) y0 y1 y2 y3 y4 y5 y6 y7))
 | 0 => ⟨fun _ _ _ _ r h => by simp [postbaglaw4_SpanEither.j0] at h, fun _ _ _ _ r h => by simp [postbaglaw4_SpanEither.l0] at h, fun _ _ _ _ _ r h => by simp [postbaglaw4_SpanEither.j2] at h, fun _ _ _ _ _ _ _ _ r h => by simp [postbaglaw4_SpanEither.j3] at h, fun _ _ _ _ _ _ _ _ r h => by simp [postbaglaw4_SpanEither.j4] at h⟩
 | k + 1 => by
  obtain ⟨ih0, ih1, ih2, ih3, ih4⟩ := postbaglaw4_SpanEither.mono_l k
  refine ⟨?_, ?_, ?_, ?_, ?_⟩
  ·intro y0 y1 y2 y3
   unfold postbaglaw4_SpanEither.j0
   repeat' first
   | (with_reducible exact ih0 _ _ _ _)
   | (with_reducible exact ih1 _ _ _ _)
   | (with_reducible exact ih2 _ _ _ _ _)
   | (with_reducible exact ih3 _ _ _ _ _ _ _ _)
   | (with_reducible exact ih4 _ _ _ _ _ _ _ _)
   | (with_reducible exact postbaglaw4_known.mono _)
   | (with_reducible exact LeO.refl _)
   | (with_reducible exact LeO.none _)
   | (with_reducible refine LeO.ite ?_ ?_)
   | (with_reducible refine LeO.bind ?_ (fun _ => ?_))
   | exact ih0 _ _ _ _
   | exact ih1 _ _ _ _
   | exact ih2 _ _ _ _ _
   | exact ih3 _ _ _ _ _ _ _ _
   | exact ih4 _ _ _ _ _ _ _ _
   | exact postbaglaw4_known.mono _
   | exact LeO.none _
   | refine LeO.ite ?_ ?_
   | refine LeO.bind ?_ (fun _ => ?_)
  ·intro y0 y1 y2 y3
   unfold postbaglaw4_SpanEither.l0
   repeat' first
   | (with_reducible exact ih0 _ _ _ _)
   | (with_reducible exact ih1 _ _ _ _)
   | (with_reducible exact ih2 _ _ _ _ _)
   | (with_reducible exact ih3 _ _ _ _ _ _ _ _)
   | (with_reducible exact ih4 _ _ _ _ _ _ _ _)
   | (with_reducible exact postbaglaw4_known.mono _)
   | (with_reducible exact LeO.refl _)
   | (with_reducible exact LeO.none _)
   | (with_reducible refine LeO.ite ?_ ?_)
   | (with_reducible refine LeO.bind ?_ (fun _ => ?_))
   | exact ih0 _ _ _ _
   | exact ih1 _ _ _ _
   | exact ih2 _ _ _ _ _
   | exact ih3 _ _ _ _ _ _ _ _
   | exact ih4 _ _ _ _ _ _ _ _
   | exact postbaglaw4_known.mono _
   | exact LeO.none _
   | refine LeO.ite ?_ ?_
   | refine LeO.bind ?_ (fun _ => ?_)
  ·intro y0 y1 y2 y3 y4
   unfold postbaglaw4_SpanEither.j2
   repeat' first
   | (with_reducible exact ih0 _ _ _ _)
   | (with_reducible exact ih1 _ _ _ _)
   | (with_reducible exact ih2 _ _ _ _ _)
   | (with_reducible exact ih3 _ _ _ _ _ _ _ _)
   | (with_reducible exact ih4 _ _ _ _ _ _ _ _)
   | (with_reducible exact postbaglaw4_known.mono _)
   | (with_reducible exact LeO.refl _)
   | (with_reducible exact LeO.none _)
   | (with_reducible refine LeO.ite ?_ ?_)
   | (with_reducible refine LeO.bind ?_ (fun _ => ?_))
   | exact ih0 _ _ _ _
   | exact ih1 _ _ _ _
   | exact ih2 _ _ _ _ _
   | exact ih3 _ _ _ _ _ _ _ _
   | exact ih4 _ _ _ _ _ _ _ _
   | exact postbaglaw4_known.mono _
   | exact LeO.none _
   | refine LeO.ite ?_ ?_
   | refine LeO.bind ?_ (fun _ => ?_)
  ·intro y0 y1 y2 y3 y4 y5 y6 y7
   unfold postbaglaw4_SpanEither.j3
   repeat' first
   | (with_reducible exact ih0 _ _ _ _)
   | (with_reducible exact ih1 _ _ _ _)
   | (with_reducible exact ih2 _ _ _ _ _)
   | (with_reducible exact ih3 _ _ _ _ _ _ _ _)
   | (with_reducible exact ih4 _ _ _ _ _ _ _ _)
   | (with_reducible exact postbaglaw4_known.mono _)
   | (with_reducible exact LeO.refl _)
   | (with_reducible exact LeO.none _)
   | (with_reducible refine LeO.ite ?_ ?_)
   | (with_reducible refine LeO.bind ?_ (fun _ => ?_))
   | exact ih0 _ _ _ _
   | exact ih1 _ _ _ _
   | exact ih2 _ _ _ _ _
   | exact ih3 _ _ _ _ _ _ _ _
   | exact ih4 _ _ _ _ _ _ _ _
   | exact postbaglaw4_known.mono _
   | exact LeO.none _
   | refine LeO.ite ?_ ?_
   | refine LeO.bind ?_ (fun _ => ?_)
  ·intro y0 y1 y2 y3 y4 y5 y6 y7
   unfold postbaglaw4_SpanEither.j4
   repeat' first
   | (with_reducible exact ih0 _ _ _ _)
   | (with_reducible exact ih1 _ _ _ _)
   | (with_reducible exact ih2 _ _ _ _ _)
   | (with_reducible exact ih3 _ _ _ _ _ _ _ _)
   | (with_reducible exact ih4 _ _ _ _ _ _ _ _)
   | (with_reducible exact postbaglaw4_known.mono _)
   | (with_reducible exact LeO.refl _)
   | (with_reducible exact LeO.none _)
   | (with_reducible refine LeO.ite ?_ ?_)
   | (with_reducible refine LeO.bind ?_ (fun _ => ?_))
   | exact ih0 _ _ _ _
   | exact ih1 _ _ _ _
   | exact ih2 _ _ _ _ _
   | exact ih3 _ _ _ _ _ _ _ _
   | exact ih4 _ _ _ _ _ _ _ _
   | exact postbaglaw4_known.mono _
   | exact LeO.none _
   | refine LeO.ite ?_ ?_
   | refine LeO.bind ?_ (fun _ => ?_)
theorem postbaglaw4_SpanEither.mono : ∀ a0 a1 a2 a3 k, LeO (postbaglaw4_SpanEither.f k a0 a1 a2 a3) (postbaglaw4_SpanEither.f (k + 1) a0 a1 a2 a3) := by
 intro a0 a1 a2 a3 k
 obtain ⟨ih0, ih1, ih2, ih3, ih4⟩ := postbaglaw4_SpanEither.mono_l k
 unfold postbaglaw4_SpanEither.f
 repeat' first
   | (with_reducible exact ih0 _ _ _ _)
   | (with_reducible exact ih1 _ _ _ _)
   | (with_reducible exact ih2 _ _ _ _ _)
   | (with_reducible exact ih3 _ _ _ _ _ _ _ _)
   | (with_reducible exact ih4 _ _ _ _ _ _ _ _)
   | (with_reducible exact postbaglaw4_known.mono _)
   | (with_reducible exact LeO.refl _)
   | (with_reducible exact LeO.none _)
   | (with_reducible refine LeO.ite ?_ ?_)
   | (with_reducible refine LeO.bind ?_ (fun _ => ?_))
   | exact ih0 _ _ _ _
   | exact ih1 _ _ _ _
   | exact ih2 _ _ _ _ _
   | exact ih3 _ _ _ _ _ _ _ _
   | exact ih4 _ _ _ _ _ _ _ _
   | exact postbaglaw4_known.mono _
   | exact LeO.none _
   | refine LeO.ite ?_ ?_
   | refine LeO.bind ?_ (fun _ => ?_)
set_option maxHeartbeats 8000000 in
set_option maxRecDepth 100000 in
theorem postbaglaw4_SpanEither.calls (k : Nat) (A0 : Option Addr) (c0 : Nat) (l0 : List (S28)) (A1 : Option Addr) (c1 : Nat) (l1 : List (S28)) (a2 : Int) (a3 : Int) (r : Bool) (w : World) (hr0 : Kd.C k28 w A0 l0.length l0) (hc0 : l0.length ≤ c0) (hr1 : Kd.C k28 w A1 l1.length l1) (hc1 : l1.length ≤ c1) (h : postbaglaw4_SpanEither.f k l0 l1 a2 a3 = some r) (hL_ : Laid w) :
  Calls Tryd.prog 12 #[.slice A0 l0.length c0, .slice A1 l1.length c1, .int .i64 a2, .int .i64 a3] w fun e w' => e = .returned (.bool r) ∧ Below w.heap.size w w' := by
 have HL_ := Aside0.mk hL_
 clear hL_
 have hu28 := Tryd.underlying28
 have HR0 := Aside0.mk hr0
 have HC0 := Aside0.mk hc0
 clear hr0 hc0
 have HR1 := Aside0.mk hr1
 have HC1 := Aside0.mk hc1
 clear hr1 hc1
 have HB := Aside0.mk (Below.refl w.heap.size w)
 have H : (if (wrap64 ((l0.length : Int) + (l1.length : Int))) > 3000 then (some true) else ((some (([] : List (S28)) : List (S28))).bind fun y471 => (if y471.length + l0.length < 8796093022208 then ((some (y471 ++ l0 : List (S28))).bind fun y474 => (if y474.length + l1.length < 8796093022208 then ((span_Has.f (y474 ++ l1) a2 a3).bind fun t480 => ((span_Has.f l0 a2 a3).bind fun t481 => (if t481 = true then (postbaglaw4_SpanEither.j0 k l0 a2 a3 (t480 != true)) else ((span_Has.f l1 a2 a3).bind fun t482 => (postbaglaw4_SpanEither.j0 k l0 a2 a3 (t480 != t482)))))) else (none))) else (none)))) = some r := h
 clear h
 by_cases c5 : (wrap64 ((l0.length : Int) + (l1.length : Int))) > 3000
 ·rw [if_pos c5] at H
  have c5b0 : decide (3000 < (wrap64 ((l0.length : Int) + (l1.length : Int)))) = true := decide_eq_true c5
  clear c5
  obtain rfl := Option.some.inj H
  go_enter Tryd.func12, Tryd.ntmps12
  go_wp2
  go_ret
  exact ⟨by first | rfl | (simp [errW_none, errW_some] <;> rfl) | (simp [*, errW_none, errW_some] <;> rfl), by repeat (first | (with_reducible first | exact HB.out | apply below_alloc | apply pw_below_drewN | apply below_drew1) | exact HB.out)⟩
 ·rw [if_neg c5] at H
  have c5b0 : decide (3000 < (wrap64 ((l0.length : Int) + (l1.length : Int)))) = false := decide_eq_false c5
  clear c5
  obtain ⟨y471, hy471⟩ : ∃ y_ : List (S28), y_ = (([] : List (S28))) := ⟨_, rfl⟩
  replace H : (if y471.length + l0.length < 8796093022208 then ((some (y471 ++ l0 : List (S28))).bind fun y474 => (if y474.length + l1.length < 8796093022208 then ((span_Has.f (y474 ++ l1) a2 a3).bind fun t480 => ((span_Has.f l0 a2 a3).bind fun t481 => (if t481 = true then (postbaglaw4_SpanEither.j0 k l0 a2 a3 (t480 != true)) else ((span_Has.f l1 a2 a3).bind fun t482 => (postbaglaw4_SpanEither.j0 k l0 a2 a3 (t480 != t482)))))) else (none))) else (none)) = some r := by first | (rw [hy471]; with_reducible exact H) | (have H2_ := (Option.bind_some _ _).symm.trans H; rw [hy471]; with_reducible exact H2_) | (have H2_ := (Option.bind_some _ _).symm.trans H; with_reducible exact H2_) | with_reducible exact H | (rw [hy471]; exact H) | exact H
  have Ny471 := Aside0.mk hy471
  clear hy471
  by_cases c6 : y471.length + l0.length < 8796093022208
  ·rw [if_pos c6] at H
   have LMc6 := Aside0.mk c6
   clear c6
   obtain ⟨y474, hy474⟩ : ∃ y_ : List (S28), y_ = (y471 ++ l0) := ⟨_, rfl⟩
   replace H : (if y474.length + l1.length < 8796093022208 then ((span_Has.f (y474 ++ l1) a2 a3).bind fun t480 => ((span_Has.f l0 a2 a3).bind fun t481 => (if t481 = true then (postbaglaw4_SpanEither.j0 k l0 a2 a3 (t480 != true)) else ((span_Has.f l1 a2 a3).bind fun t482 => (postbaglaw4_SpanEither.j0 k l0 a2 a3 (t480 != t482)))))) else (none)) = some r := by first | (rw [hy474]; with_reducible exact H) | (have H2_ := (Option.bind_some _ _).symm.trans H; rw [hy474]; with_reducible exact H2_) | (have H2_ := (Option.bind_some _ _).symm.trans H; with_reducible exact H2_) | with_reducible exact H | (rw [hy474]; exact H) | exact H
   have Ny474 := Aside0.mk hy474
   clear hy474
   by_cases c7 : y474.length + l1.length < 8796093022208
   ·rw [if_pos c7] at H
    have LMc7 := Aside0.mk c7
    clear c7
    obtain ⟨y477, hy477⟩ : ∃ y_ : List (S28), y_ = (y474 ++ l1) := ⟨_, rfl⟩
    replace H : ((span_Has.f y477 a2 a3).bind fun t480 => ((span_Has.f l0 a2 a3).bind fun t481 => (if t481 = true then (postbaglaw4_SpanEither.j0 k l0 a2 a3 (t480 != true)) else ((span_Has.f l1 a2 a3).bind fun t482 => (postbaglaw4_SpanEither.j0 k l0 a2 a3 (t480 != t482)))))) = some r := by first | (rw [hy477]; with_reducible exact H) | (have H2_ := (Option.bind_some _ _).symm.trans H; rw [hy477]; with_reducible exact H2_) | (have H2_ := (Option.bind_some _ _).symm.trans H; with_reducible exact H2_) | with_reducible exact H | (rw [hy477]; exact H) | exact H
    have Ny477 := Aside0.mk hy477
    clear hy477
    have HC8 := Aside0.mk H
    clear H
    go_enter Tryd.func12, Tryd.ntmps12
    go_upto_region 4 with (first | ((with_reducible refine gate_dst (N := 19) rfl ?_); (try (refine gate_guard (by rfl) ?_; dsimp only)); refine Kd.R_lit k28 _ 28 ?hg (N := 19) ?hd (xs := ([] : List (S28))) (inner := []) (ok := fun _ => True) (okp := fun _ => True) ?hr ?hp (fun _ hk => hk) trivial (Below.refl _ _) (Nat.le_refl _) (by simp) ?_; (case hd => rfl); (case hg => rfl); (case hr => first | (go_simp; done) | (go_simp; rfl)); (case hp => exact (Reps.none _ _)); intro v472 w9 ho10 hb hg_ hnew_; clear hg_ hnew_; (first | rw [← Ny471.out] at ho10 | (simp only [Int.reduceToNat] at ho10; rw [← Ny471.out] at ho10)); have n0_ := Aside0.mk (Kd.R_lower ho10 (below_size (by repeat (first | (with_reducible first | exact HB.out | apply below_alloc | apply pw_below_drewN | apply below_drew1) | exact HB.out)))); have n1_ := Aside0.mk (below_step (by repeat (first | (with_reducible first | exact HB.out | apply below_alloc | apply pw_below_drewN | apply below_drew1) | exact HB.out)) hb); clear HB; have HO473 := n0_; have HB := n1_; clear n0_ n1_; clear hb ho10) | ((with_reducible refine gate_builtin (b := .append) (xs := #[.tmp 19, .tmp 20]) rfl ?_); (try (refine gate_guard (by rfl) ?_; dsimp only)); at_builtin; refine Kd.R_append_rows k28 (w0 := w) w.heap.size rfl (.tmp 19) (.tmp 20) 23 28 (.agg #[(.int .i64 0), (.int .i64 0)]) 16 rfl Tryd.underlying23 info28 rfl (by decide) (by omega) v472 y471 l0 _ _ _ (fun _ => True) (fun _ => False) rfl rfl ?aO ?aR (fun _ _ h => h) (fun _ h => h.elim) ?aF ?aB ?aS ?aL ?_; (case aR => repeat (first | exact (Kd.C_below HR0.out HB.out) | (with_reducible refine Kd.C_alloc ?_ _) | (with_reducible refine Kd.C_drewN ?_ _) | (with_reducible refine Kd.C_drew ?_))); (case aB => exact (by repeat (first | (with_reducible first | exact HB.out | apply below_alloc | apply pw_below_drewN | apply below_drew1) | exact HB.out))); (case aF => exact (fun _ _ => trivial)); (case aO => exact (by (with_reducible repeat (first | apply Kd.R_alloc | apply Kd.R_drewN | apply Kd.R_drew)); exact HO473.out)); (case aS => exact (below_size (by repeat (first | (with_reducible first | exact HB.out | apply below_alloc | apply pw_below_drewN | apply below_drew1) | exact HB.out)))); (case aL => have := LMc6.out; omega); intro v475 w11 ho hb hg hat; rw [← Ny474.out] at ho; have n0_ := Aside0.mk (hb); have n1_ := Aside0.mk (ho); clear HB; clear HO473; have HB := n0_; have HO476 := n1_; clear n0_ n1_; clear ho hb hg hat) | ((with_reducible refine gate_builtin (b := .append) (xs := #[.tmp 21, .tmp 22]) rfl ?_); (try (refine gate_guard (by rfl) ?_; dsimp only)); at_builtin; refine Kd.R_append_rows k28 (w0 := w) w.heap.size rfl (.tmp 21) (.tmp 22) 23 28 (.agg #[(.int .i64 0), (.int .i64 0)]) 16 rfl Tryd.underlying23 info28 rfl (by decide) (by omega) v475 y474 l1 _ _ _ (fun _ => True) (fun _ => False) rfl rfl ?aO ?aR (fun _ _ h => h) (fun _ h => h.elim) ?aF ?aB ?aS ?aL ?_; (case aR => repeat (first | exact (Kd.C_below HR1.out HB.out) | (with_reducible refine Kd.C_alloc ?_ _) | (with_reducible refine Kd.C_drewN ?_ _) | (with_reducible refine Kd.C_drew ?_))); (case aB => exact (by repeat (first | (with_reducible first | exact HB.out | apply below_alloc | apply pw_below_drewN | apply below_drew1) | exact HB.out))); (case aF => exact (fun _ _ => trivial)); (case aO => exact (by (with_reducible repeat (first | apply Kd.R_alloc | apply Kd.R_drewN | apply Kd.R_drew)); exact HO476.out)); (case aS => exact (below_size (by repeat (first | (with_reducible first | exact HB.out | apply below_alloc | apply pw_below_drewN | apply below_drew1) | exact HB.out)))); (case aL => have := LMc7.out; omega); intro v478 w12 ho hb hg hat; rw [← Ny477.out] at ho; have n0_ := Aside0.mk (hb); have n1_ := Aside0.mk (ho); clear HB; clear HO476; have HB := n0_; have HO479 := n1_; clear n0_ n1_; clear ho hb hg hat))
    (try simp only [Act.put, s1_, s2_, s3_])
    go_cut [38] (fun v38 wc => ∃ (kq : Nat) (x38_7 : Bool), v38 = .bool x38_7 ∧ Aside0 (postbaglaw4_SpanEither.j0 kq l0 a2 a3 x38_7 = some r) ∧ Aside0 (kq ≤ k) ∧ Aside0 (Below w.heap.size w wc))
    case first =>
     have H := HC8.out
     clear HC8
     replace H := Option.bind_eq_some_iff.mp H
     obtain ⟨t480, A130, H⟩ := H
     replace H : ((span_Has.f l0 a2 a3).bind fun t481 => (if t481 = true then (postbaglaw4_SpanEither.j0 k l0 a2 a3 (t480 != true)) else ((span_Has.f l1 a2 a3).bind fun t482 => (postbaglaw4_SpanEither.j0 k l0 a2 a3 (t480 != t482))))) = some r := H
     have A13 := Aside0.mk A130
     clear A130
     replace H := Option.bind_eq_some_iff.mp H
     obtain ⟨t481, A140, H⟩ := H
     replace H : (if t481 = true then (postbaglaw4_SpanEither.j0 k l0 a2 a3 (t480 != true)) else ((span_Has.f l1 a2 a3).bind fun t482 => (postbaglaw4_SpanEither.j0 k l0 a2 a3 (t480 != t482)))) = some r := H
     have A14 := Aside0.mk A140
     clear A140
     by_cases c15 : t481 = true
     ·subst c15
      have H1 : (postbaglaw4_SpanEither.j0 k l0 a2 a3 (t480 != true)) = some r := by rw [if_pos rfl] at H; exact H
      clear H
      have H := H1
      clear H1
      have H' := Aside0.mk H
      clear H
      obtain ⟨Ao16, co16, eo16⟩ := Kd.R_slice HO479.out
      subst eo16
      go_wp2_with (first | ((with_reducible refine gate_callee (f := 17) rfl ?_); refine goesL_ (some 27) rfl rfl Tryd.func17 (by kernel_rfl) rfl #[.slice Ao16 y477.length co16, .int .i64 a2, .int .i64 a3] rfl (by (try simp only [List.map_toArray, List.map_cons, List.map_nil]); first | done | rfl | (simp only [List.length_drop, List.length_take]; rfl)) ?_; (with_reducible refine (span_Has.calls _ _ y477 a2 a3 t480 _ ?side1 ?side2 A13.out).mono ?_); (case side1 => repeat (first | exact (Kd.R_reads' HO479.out).2.2 | (with_reducible refine Kd.C_alloc ?_ _) | (with_reducible refine Kd.C_drewN ?_ _) | (with_reducible refine Kd.C_drew ?_))); (case side2 => exact (Kd.R_reads' HO479.out).2.1); rintro e w17 ⟨rfl, hb⟩; refine ⟨_, rfl, ?_⟩; have n0_ := Aside0.mk (Kd.R_below (by (with_reducible repeat (first | apply Kd.R_alloc | apply Kd.R_drewN | apply Kd.R_drew)); exact HO479.out) hb); have n1_ := Aside0.mk (below_step (by repeat (first | (with_reducible first | exact HB.out | apply below_alloc | apply pw_below_drewN | apply below_drew1) | exact HB.out)) hb); clear HO479; clear HB; have HO479 := n0_; have HB := n1_; clear n0_ n1_; (try clear hb); (try clear hb2); (try clear hk); (try clear hi)) | ((with_reducible refine gate_callee (f := 17) rfl ?_); refine goesL_ (some 31) rfl rfl Tryd.func17 (by kernel_rfl) rfl #[.slice A0 l0.length c0, .int .i64 a2, .int .i64 a3] rfl (by (try simp only [List.map_toArray, List.map_cons, List.map_nil]); first | done | rfl | (simp only [List.length_drop, List.length_take]; rfl)) ?_; (with_reducible refine (span_Has.calls _ _ l0 a2 a3 true _ ?side1 ?side2 A14.out).mono ?_); (case side1 => repeat (first | exact (Kd.C_below HR0.out HB.out) | (with_reducible refine Kd.C_alloc ?_ _) | (with_reducible refine Kd.C_drewN ?_ _) | (with_reducible refine Kd.C_drew ?_))); (case side2 => exact HC0.out); rintro e w18 ⟨rfl, hb⟩; refine ⟨_, rfl, ?_⟩; have n0_ := Aside0.mk (Kd.R_below (by (with_reducible repeat (first | apply Kd.R_alloc | apply Kd.R_drewN | apply Kd.R_drew)); exact HO479.out) hb); have n1_ := Aside0.mk (below_step (by repeat (first | (with_reducible first | exact HB.out | apply below_alloc | apply pw_below_drewN | apply below_drew1) | exact HB.out)) hb); clear HO479; clear HB; have HO479 := n0_; have HB := n1_; clear n0_ n1_; (try clear hb); (try clear hb2); (try clear hk); (try clear hi)))
      go_meet
      case rel => exact ⟨_, ((t480 != true)), (by first | rfl | (simp; done) | (simp [*]; done)), H', ⟨by first | omega | exact Nat.le_refl _⟩, ⟨by repeat (first | (with_reducible first | exact HB.out | apply below_alloc | apply pw_below_drewN | apply below_drew1) | exact HB.out)⟩⟩
     ·replace c15 := Bool.eq_false_iff.mpr c15
      subst c15
      have H1 : ((span_Has.f l1 a2 a3).bind fun t482 => (postbaglaw4_SpanEither.j0 k l0 a2 a3 (t480 != t482))) = some r := by rw [if_neg (show ¬ (false = true) by decide)] at H; exact H
      clear H
      have H := H1
      clear H1
      replace H := Option.bind_eq_some_iff.mp H
      obtain ⟨t482, A190, H⟩ := H
      replace H : (postbaglaw4_SpanEither.j0 k l0 a2 a3 (t480 != t482)) = some r := H
      have A19 := Aside0.mk A190
      clear A190
      have H' := Aside0.mk H
      clear H
      obtain ⟨Ao20, co20, eo20⟩ := Kd.R_slice HO479.out
      subst eo20
      go_wp2_with (first | ((with_reducible refine gate_callee (f := 17) rfl ?_); refine goesL_ (some 27) rfl rfl Tryd.func17 (by kernel_rfl) rfl #[.slice Ao20 y477.length co20, .int .i64 a2, .int .i64 a3] rfl (by (try simp only [List.map_toArray, List.map_cons, List.map_nil]); first | done | rfl | (simp only [List.length_drop, List.length_take]; rfl)) ?_; (with_reducible refine (span_Has.calls _ _ y477 a2 a3 t480 _ ?side1 ?side2 A13.out).mono ?_); (case side1 => repeat (first | exact (Kd.R_reads' HO479.out).2.2 | (with_reducible refine Kd.C_alloc ?_ _) | (with_reducible refine Kd.C_drewN ?_ _) | (with_reducible refine Kd.C_drew ?_))); (case side2 => exact (Kd.R_reads' HO479.out).2.1); rintro e w21 ⟨rfl, hb⟩; refine ⟨_, rfl, ?_⟩; have n0_ := Aside0.mk (Kd.R_below (by (with_reducible repeat (first | apply Kd.R_alloc | apply Kd.R_drewN | apply Kd.R_drew)); exact HO479.out) hb); have n1_ := Aside0.mk (below_step (by repeat (first | (with_reducible first | exact HB.out | apply below_alloc | apply pw_below_drewN | apply below_drew1) | exact HB.out)) hb); clear HO479; clear HB; have HO479 := n0_; have HB := n1_; clear n0_ n1_; (try clear hb); (try clear hb2); (try clear hk); (try clear hi)) | ((with_reducible refine gate_callee (f := 17) rfl ?_); refine goesL_ (some 31) rfl rfl Tryd.func17 (by kernel_rfl) rfl #[.slice A0 l0.length c0, .int .i64 a2, .int .i64 a3] rfl (by (try simp only [List.map_toArray, List.map_cons, List.map_nil]); first | done | rfl | (simp only [List.length_drop, List.length_take]; rfl)) ?_; (with_reducible refine (span_Has.calls _ _ l0 a2 a3 false _ ?side1 ?side2 A14.out).mono ?_); (case side1 => repeat (first | exact (Kd.C_below HR0.out HB.out) | (with_reducible refine Kd.C_alloc ?_ _) | (with_reducible refine Kd.C_drewN ?_ _) | (with_reducible refine Kd.C_drew ?_))); (case side2 => exact HC0.out); rintro e w22 ⟨rfl, hb⟩; refine ⟨_, rfl, ?_⟩; have n0_ := Aside0.mk (Kd.R_below (by (with_reducible repeat (first | apply Kd.R_alloc | apply Kd.R_drewN | apply Kd.R_drew)); exact HO479.out) hb); have n1_ := Aside0.mk (below_step (by repeat (first | (with_reducible first | exact HB.out | apply below_alloc | apply pw_below_drewN | apply below_drew1) | exact HB.out)) hb); clear HO479; clear HB; have HO479 := n0_; have HB := n1_; clear n0_ n1_; (try clear hb); (try clear hb2); (try clear hk); (try clear hi)) | (go_at_call 17; (with_reducible refine (span_Has.calls _ _ l1 a2 a3 t482 _ ?side1 ?side2 A19.out).mono ?_); (case side1 => repeat (first | exact (Kd.C_below HR1.out HB.out) | (with_reducible refine Kd.C_alloc ?_ _) | (with_reducible refine Kd.C_drewN ?_ _) | (with_reducible refine Kd.C_drew ?_))); (case side2 => exact HC1.out); rintro e w23 ⟨rfl, hb⟩; have n0_ := Aside0.mk (Kd.R_below (by (with_reducible repeat (first | apply Kd.R_alloc | apply Kd.R_drewN | apply Kd.R_drew)); exact HO479.out) hb); have n1_ := Aside0.mk (below_step (by repeat (first | (with_reducible first | exact HB.out | apply below_alloc | apply pw_below_drewN | apply below_drew1) | exact HB.out)) hb); clear HO479; clear HB; have HO479 := n0_; have HB := n1_; clear n0_ n1_; (try clear hb); (try clear hb2); (try clear hk); (try clear hi)))
      go_meet
      case rel => exact ⟨_, ((t480 != t482)), (by first | rfl | (simp; done) | (simp [*]; done)), H', ⟨by first | omega | exact Nat.le_refl _⟩, ⟨by repeat (first | (with_reducible first | exact HB.out | apply below_alloc | apply pw_below_drewN | apply below_drew1) | exact HB.out)⟩⟩
    case rest =>
     clear HC8
     try clear c1
     try clear p2
     try clear c5
     try clear c5b0
     try clear c6
     try clear p6
     try clear c7
     try clear c12
     try clear c15
     try clear c17
     obtain ⟨kq, x38_7, rfl, HA, HJ7, HB⟩ := hcut
     cases kq with
     | zero => exact absurd HA.out (by simp [postbaglaw4_SpanEither.j0])
     | succ kj7 =>
      have H := HA.out
      clear HA
      simp only [postbaglaw4_SpanEither.j0] at H
      by_cases c24 : x38_7 = true
      ·subst c24
       have H1 : (some false) = some r := by rw [if_pos rfl] at H; exact H
       clear H
       have H := H1
       clear H1
       obtain rfl := Option.some.inj H
       go_wp2
       go_ret
       exact ⟨by first | rfl | (simp [errW_none, errW_some] <;> rfl) | (simp [*, errW_none, errW_some] <;> rfl), by repeat (first | (with_reducible first | exact HB.out | apply below_alloc | apply pw_below_drewN | apply below_drew1) | exact HB.out)⟩
      ·replace c24 := Bool.eq_false_iff.mpr c24
       subst c24
       have H1 : (postbaglaw4_SpanEither.l0 kj7 l0 a2 a3 0) = some r := by rw [if_neg (show ¬ (false = true) by decide)] at H; exact H
       clear H
       have H := H1
       clear H1
       have H' := Aside0.mk H
       clear H
       go_wp2
       go_loopg [10] kj7 (fun kq v10 w' => ∃ (x10_2 : Int), v10 = .int .i64 x10_2 ∧ Aside0 (postbaglaw4_SpanEither.l0 kq l0 a2 a3 x10_2 = some r) ∧ Aside0 (kq ≤ kj7) ∧ Aside0 (Below w.heap.size w w'))
       case atStart => exact ⟨(0), (by first | rfl | (simp; done) | (simp [*]; done)), H', ⟨Nat.le_refl _⟩, ⟨by repeat (first | (with_reducible first | exact HB.out | apply below_alloc | apply pw_below_drewN | apply below_drew1) | exact HB.out)⟩⟩
       case round =>
        clear H'
        try clear c1
        try clear c2
        try clear p2
        try clear c5
        try clear c5b0
        try clear c6
        try clear p6
        try clear c7
        try clear c12
        try clear c15
        try clear c17
        try clear c24
        try clear p2
        try clear p6
        obtain ⟨x10_2, rfl, HA, HK2, HB⟩ := hrel
        cases gk with
        | zero => exact absurd HA.out (by simp [postbaglaw4_SpanEither.l0])
        | succ k2 =>
         have H := HA.out
         clear HA
         simp only [postbaglaw4_SpanEither.l0] at H
         have HC25 := Aside0.mk H
         clear H
         go_upto_region 7 with (fail)
         go_cut [46] (fun v46 wc => ∃ (kq : Nat) (x46_24 : Bool), v46 = .bool x46_24 ∧ Aside0 (postbaglaw4_SpanEither.j2 kq l0 a2 a3 x10_2 x46_24 = some r) ∧ Aside0 (kq ≤ k2) ∧ Aside0 (Below w.heap.size w wc))
         case first =>
          have H := HC25.out
          clear HC25
          by_cases c26 : x10_2 < (l0.length : Int)
          ·rw [if_pos c26] at H
           have c26b0 : decide (x10_2 < (l0.length : Int)) = true := decide_eq_true c26
           clear c26
           (first | rw [c26b0] | (simp only [i64_w, i32_w]; rw [c26b0]) | skip)
           have H' := Aside0.mk H
           clear H
           go_wp2
           go_meet
           case rel => exact ⟨_, (decide (x10_2 < 200)), (by first | rfl | (simp; done) | (simp [*]; done)), H', ⟨by have := HJ7.out; have := HK2.out; first | omega | exact Nat.le_refl _⟩, ⟨by repeat (first | (with_reducible first | exact HB.out | apply below_alloc | apply pw_below_drewN | apply below_drew1) | exact HB.out)⟩⟩
          ·rw [if_neg c26] at H
           have c26b0 : decide (x10_2 < (l0.length : Int)) = false := decide_eq_false c26
           clear c26
           (first | rw [c26b0] | (simp only [i64_w, i32_w]; rw [c26b0]) | skip)
           have H' := Aside0.mk H
           clear H
           go_wp2
           go_meet
           case rel => exact ⟨_, (false), (by first | rfl | (simp; done) | (simp [*]; done)), H', ⟨by have := HJ7.out; have := HK2.out; first | omega | exact Nat.le_refl _⟩, ⟨by repeat (first | (with_reducible first | exact HB.out | apply below_alloc | apply pw_below_drewN | apply below_drew1) | exact HB.out)⟩⟩
         case rest =>
          clear HC25
          try clear c1
          try clear c2
          try clear p2
          try clear c5
          try clear c5b0
          try clear c6
          try clear p6
          try clear c7
          try clear c12
          try clear c15
          try clear c17
          try clear c24
          try clear c26
          try clear c26b0
          try clear p2
          try clear p6
          obtain ⟨kq, x46_24, rfl, HA, HJ24, HB⟩ := hcut
          cases kq with
          | zero => exact absurd HA.out (by simp [postbaglaw4_SpanEither.j2])
          | succ kj24 =>
           have H := HA.out
           clear HA
           simp only [postbaglaw4_SpanEither.j2] at H
           by_cases c27 : x46_24 = true
           ·subst c27
            have H1 : (if 0 ≤ x10_2 then (if x10_2 < (l0.length : Int) then ((span_Has.f (([(⟨(rd_T28 l0 x10_2).f0, (rd_T28 l0 x10_2).f1⟩ : S28)] : List (S28))) a2 a3).bind fun t489 => ((span_Has.f (([(⟨(rd_T28 l0 x10_2).f1, (rd_T28 l0 x10_2).f0⟩ : S28)] : List (S28))) a2 a3).bind fun t493 => (if (t489 != t493) = true then (postbaglaw4_SpanEither.j3 kj24 l0 a2 a3 x10_2 t489 true ((rd_T28 l0 x10_2).f0) ((rd_T28 l0 x10_2).f1)) else (if t489 = true then ((span_Has.f l0 a2 a3).bind fun t494 => (postbaglaw4_SpanEither.j3 kj24 l0 a2 a3 x10_2 t489 (!t494) ((rd_T28 l0 x10_2).f0) ((rd_T28 l0 x10_2).f1))) else (postbaglaw4_SpanEither.j3 kj24 l0 a2 a3 x10_2 t489 false ((rd_T28 l0 x10_2).f0) ((rd_T28 l0 x10_2).f1)))))) else (none)) else (none)) = some r := by rw [if_pos rfl] at H; exact H
            clear H
            have H := H1
            clear H1
            by_cases c28 : 0 ≤ x10_2
            ·rw [if_pos c28] at H
             have c28b0 : decide (0 ≤ x10_2) = true := decide_eq_true c28
             clear c28
             by_cases c29 : x10_2 < (l0.length : Int)
             ·rw [if_pos c29] at H
              have c29b0 : decide (x10_2 < (l0.length : Int)) = true := decide_eq_true c29
              clear c29
              obtain ⟨y486, hy486⟩ : ∃ y_ : List (S28), y_ = (([(⟨(rd_T28 l0 x10_2).f0, (rd_T28 l0 x10_2).f1⟩ : S28)] : List (S28))) := ⟨_, rfl⟩
              replace H : ((span_Has.f y486 a2 a3).bind fun t489 => ((span_Has.f (([(⟨(rd_T28 l0 x10_2).f1, (rd_T28 l0 x10_2).f0⟩ : S28)] : List (S28))) a2 a3).bind fun t493 => (if (t489 != t493) = true then (postbaglaw4_SpanEither.j3 kj24 l0 a2 a3 x10_2 t489 true ((rd_T28 l0 x10_2).f0) ((rd_T28 l0 x10_2).f1)) else (if t489 = true then ((span_Has.f l0 a2 a3).bind fun t494 => (postbaglaw4_SpanEither.j3 kj24 l0 a2 a3 x10_2 t489 (!t494) ((rd_T28 l0 x10_2).f0) ((rd_T28 l0 x10_2).f1))) else (postbaglaw4_SpanEither.j3 kj24 l0 a2 a3 x10_2 t489 false ((rd_T28 l0 x10_2).f0) ((rd_T28 l0 x10_2).f1)))))) = some r := by first | (rw [hy486]; with_reducible exact H) | (have H2_ := (Option.bind_some _ _).symm.trans H; rw [hy486]; with_reducible exact H2_) | (have H2_ := (Option.bind_some _ _).symm.trans H; with_reducible exact H2_) | with_reducible exact H | (rw [hy486]; exact H) | exact H
              have Ny486 := Aside0.mk hy486
              clear hy486
              replace H := Option.bind_eq_some_iff.mp H
              obtain ⟨t489, A300, H⟩ := H
              replace H : ((span_Has.f (([(⟨(rd_T28 l0 x10_2).f1, (rd_T28 l0 x10_2).f0⟩ : S28)] : List (S28))) a2 a3).bind fun t493 => (if (t489 != t493) = true then (postbaglaw4_SpanEither.j3 kj24 l0 a2 a3 x10_2 t489 true ((rd_T28 l0 x10_2).f0) ((rd_T28 l0 x10_2).f1)) else (if t489 = true then ((span_Has.f l0 a2 a3).bind fun t494 => (postbaglaw4_SpanEither.j3 kj24 l0 a2 a3 x10_2 t489 (!t494) ((rd_T28 l0 x10_2).f0) ((rd_T28 l0 x10_2).f1))) else (postbaglaw4_SpanEither.j3 kj24 l0 a2 a3 x10_2 t489 false ((rd_T28 l0 x10_2).f0) ((rd_T28 l0 x10_2).f1))))) = some r := H
              have A30 := Aside0.mk A300
              clear A300
              have HC31 := Aside0.mk H
              clear H
              have p484 : 0 ≤ (x10_2 : Int) := of_decide_eq_true (by first | (with_reducible assumption) | assumption)
              have q484 : x10_2 < (l0.length : Int) := of_decide_eq_true (by first | (with_reducible assumption) | assumption)
              obtain ⟨ad484, e484, hx484_0, hx484_1⟩ := at_T28 HR0.out x10_2 p484 q484
              cases e484
              replace hx484_0 := (HB.out.cell (World.block_lt_of_cell? w _ hx484_0)).trans hx484_0
              replace hx484_1 := (HB.out.cell (World.block_lt_of_cell? w _ hx484_1)).trans hx484_1
              replace p484 := eq_true p484
              replace q484 := eq_true q484
              go_upto_region 11 with (first | ((with_reducible refine gate_dst (N := 11) rfl ?_); (try (refine gate_guard (by rfl) ?_; dsimp only)); refine box_event ?hg (N := 11) ?hd (cs := #[.int .i64 0, .int .i64 0]) (t := 28) ?hr ?_; (case hd => rfl); (case hg => rfl); (case hr => first | (go_simp; done) | (go_simp; rfl)); intro gb485 hg w32 hbox hb; have n0_ := Aside0.mk (below_step (by repeat (first | (with_reducible first | exact HB.out | apply below_alloc | apply pw_below_drewN | apply below_drew1) | exact HB.out)) hb); have n1_ := Aside0.mk (hbox); have n2_ := Aside0.mk ((by rw [hg]; exact (below_size (by repeat (first | (with_reducible first | exact HB.out | apply below_alloc | apply pw_below_drewN | apply below_drew1) | exact HB.out))) : w.heap.size ≤ gb485)); have n3_ := Aside0.mk ((by rw [hg]; exact (below_size (by repeat (first | (with_reducible first | exact HB.out | apply below_alloc | apply pw_below_drewN | apply below_drew1) | exact HB.out))) : w.heap.size ≤ gb485)); clear HB; have HB := n0_; have BK485 := n1_; have GW485 := n2_; have GE485 := n3_; clear n0_ n1_ n2_ n3_; clear hb hbox hg; have hcz33_0 : w32.cell? ⟨gb485, 0, none⟩ = some (.int .i64 0) := (blk_cell BK485.out 0).trans rfl; have hcz33_1 : w32.cell? ⟨gb485, 1, none⟩ = some (.int .i64 0) := (blk_cell BK485.out 1).trans rfl; have hfz33_0 := blk_frozen BK485.out 0; have hfz33_1 := blk_frozen BK485.out 1) | ((with_reducible refine gate_dst (N := 54) rfl ?_); (try (refine gate_guard (by rfl) ?_; dsimp only)); refine Kd.R_lit k28 _ 28 ?hg (N := 54) ?hd (xs := ([(⟨(rd_T28 l0 x10_2).f0, (rd_T28 l0 x10_2).f1⟩ : S28)] : List (S28))) (inner := [.int .i64 ((rd_T28 l0 x10_2).f0), .int .i64 ((rd_T28 l0 x10_2).f1)]) (ok := fun _ => True) (okp := fun _ => True) ?hr ?hp (fun _ hk => hk) trivial (Below.refl _ _) (Nat.le_refl _) (by simp) ?_; (case hd => rfl); (case hg => rfl); (case hr => first | (go_simp; done) | (go_simp; rfl)); (case hp => exact (Reps.c2 (show Kd.M k28 _ _ _ (⟨(rd_T28 l0 x10_2).f0, (rd_T28 l0 x10_2).f1⟩ : S28) [.int .i64 ((rd_T28 l0 x10_2).f0), .int .i64 ((rd_T28 l0 x10_2).f1)] from (k28_mkM _ _ _ (⟨(rd_T28 l0 x10_2).f0, (rd_T28 l0 x10_2).f1⟩ : S28) )) (Reps.none _ _))); intro v487 w34 ho35 hb hg_ hnew_; clear hg_ hnew_; (first | rw [← Ny486.out] at ho35 | (simp only [Int.reduceToNat] at ho35; rw [← Ny486.out] at ho35)); have n0_ := Aside0.mk (Kd.R_lower (Kd.R_newB ho35 (g := gb485) (o := .cells #[.int .i64 ((rd_T28 l0 x10_2).f0), .int .i64 ((rd_T28 l0 x10_2).f1)] 28 (0, 0)) (by (with_reducible repeat (first | refine blk_drewN ?_ _ | refine blk_drew ?_ | refine blk_alloc ?_ _)); refine blk_put (cs := #[.int .i64 ((rd_T28 l0 x10_2).f0), .int .i64 0]) ?_ 1 _ rfl; (with_reducible repeat (first | refine blk_drewN ?_ _ | refine blk_drew ?_ | refine blk_alloc ?_ _)); refine blk_put (cs := #[.int .i64 0, .int .i64 0]) ?_ 0 _ rfl; (with_reducible repeat (first | refine blk_drewN ?_ _ | refine blk_drew ?_ | refine blk_alloc ?_ _)); exact BK485.out)) (below_size (by repeat (first | (with_reducible first | exact HB.out | apply below_alloc | apply pw_below_drewN | apply below_drew1 | refine below_set ?_ GE485.out) | exact HB.out)))); have n1_ := Aside0.mk (blk_below (g := gb485) (o := .cells #[.int .i64 ((rd_T28 l0 x10_2).f0), .int .i64 ((rd_T28 l0 x10_2).f1)] 28 (0, 0)) (by (with_reducible repeat (first | refine blk_drewN ?_ _ | refine blk_drew ?_ | refine blk_alloc ?_ _)); refine blk_put (cs := #[.int .i64 ((rd_T28 l0 x10_2).f0), .int .i64 0]) ?_ 1 _ rfl; (with_reducible repeat (first | refine blk_drewN ?_ _ | refine blk_drew ?_ | refine blk_alloc ?_ _)); refine blk_put (cs := #[.int .i64 0, .int .i64 0]) ?_ 0 _ rfl; (with_reducible repeat (first | refine blk_drewN ?_ _ | refine blk_drew ?_ | refine blk_alloc ?_ _)); exact BK485.out) hb); have n2_ := Aside0.mk (below_step (by repeat (first | (with_reducible first | exact HB.out | apply below_alloc | apply pw_below_drewN | apply below_drew1 | refine below_set ?_ GE485.out) | exact HB.out)) hb); clear BK485; clear HB; have HO488 := n0_; have BK485 := n1_; have HB := n2_; clear n0_ n1_ n2_; clear hb ho35; obtain ⟨Ao36, co36, eo36⟩ := Kd.R_slice HO488.out; subst eo36) | ((with_reducible refine gate_callee (f := 17) rfl ?_); refine goesL_ (some 57) rfl rfl Tryd.func17 (by kernel_rfl) rfl #[.slice Ao36 y486.length co36, .int .i64 a2, .int .i64 a3] rfl (by (try simp only [List.map_toArray, List.map_cons, List.map_nil]); first | done | rfl | (simp only [List.length_drop, List.length_take]; rfl)) ?_; (with_reducible refine (span_Has.calls _ _ y486 a2 a3 t489 _ ?side1 ?side2 A30.out).mono ?_); (case side1 => repeat (first | exact (Kd.R_reads' HO488.out).2.2 | (with_reducible refine Kd.C_alloc ?_ _) | (with_reducible refine Kd.C_drewN ?_ _) | (with_reducible refine Kd.C_drew ?_))); (case side2 => exact (Kd.R_reads' HO488.out).2.1); rintro e w37 ⟨rfl, hb⟩; refine ⟨_, rfl, ?_⟩; have n0_ := Aside0.mk (Kd.R_below (by (with_reducible repeat (first | apply Kd.R_alloc | apply Kd.R_drewN | apply Kd.R_drew)); exact HO488.out) hb); have n1_ := Aside0.mk (blk_below (g := gb485) (o := .cells #[.int .i64 ((rd_T28 l0 x10_2).f0), .int .i64 ((rd_T28 l0 x10_2).f1)] 28 (0, 0)) (by (with_reducible repeat (first | refine blk_drewN ?_ _ | refine blk_drew ?_ | refine blk_alloc ?_ _)); exact BK485.out) hb); have n2_ := Aside0.mk (below_step (by repeat (first | (with_reducible first | exact HB.out | apply below_alloc | apply pw_below_drewN | apply below_drew1 | refine below_set ?_ GE485.out) | exact HB.out)) hb); clear HO488; clear BK485; clear HB; have HO488 := n0_; have BK485 := n1_; have HB := n2_; clear n0_ n1_ n2_; (try clear hb); (try clear hb2); (try clear hk); (try clear hi)))
              (try simp only [Act.put, s1_, s2_, s3_])
              go_cut [78] (fun v78 wc => ∃ (kq : Nat) (x78_30 : Bool), v78 = .bool x78_30 ∧ Aside0 (postbaglaw4_SpanEither.j3 kq l0 a2 a3 x10_2 t489 x78_30 ((rd_T28 l0 x10_2).f0) ((rd_T28 l0 x10_2).f1) = some r) ∧ Aside0 (kq ≤ kj24) ∧ Aside0 (wc.heap[gb485]? = some (.cells #[.int .i64 ((rd_T28 l0 x10_2).f0), .int .i64 ((rd_T28 l0 x10_2).f1)] 28 (0, 0))) ∧ Aside0 (Below w.heap.size w wc))
              case first =>
               have H := HC31.out
               clear HC31
               obtain ⟨y490, hy490⟩ : ∃ y_ : List (S28), y_ = (([(⟨(rd_T28 l0 x10_2).f1, (rd_T28 l0 x10_2).f0⟩ : S28)] : List (S28))) := ⟨_, rfl⟩
               replace H : ((span_Has.f y490 a2 a3).bind fun t493 => (if (t489 != t493) = true then (postbaglaw4_SpanEither.j3 kj24 l0 a2 a3 x10_2 t489 true ((rd_T28 l0 x10_2).f0) ((rd_T28 l0 x10_2).f1)) else (if t489 = true then ((span_Has.f l0 a2 a3).bind fun t494 => (postbaglaw4_SpanEither.j3 kj24 l0 a2 a3 x10_2 t489 (!t494) ((rd_T28 l0 x10_2).f0) ((rd_T28 l0 x10_2).f1))) else (postbaglaw4_SpanEither.j3 kj24 l0 a2 a3 x10_2 t489 false ((rd_T28 l0 x10_2).f0) ((rd_T28 l0 x10_2).f1))))) = some r := by first | (rw [hy490]; with_reducible exact H) | (have H2_ := (Option.bind_some _ _).symm.trans H; rw [hy490]; with_reducible exact H2_) | (have H2_ := (Option.bind_some _ _).symm.trans H; with_reducible exact H2_) | with_reducible exact H | (rw [hy490]; exact H) | exact H
               have Ny490 := Aside0.mk hy490
               clear hy490
               replace H := Option.bind_eq_some_iff.mp H
               obtain ⟨t493, A380, H⟩ := H
               replace H : (if (t489 != t493) = true then (postbaglaw4_SpanEither.j3 kj24 l0 a2 a3 x10_2 t489 true ((rd_T28 l0 x10_2).f0) ((rd_T28 l0 x10_2).f1)) else (if t489 = true then ((span_Has.f l0 a2 a3).bind fun t494 => (postbaglaw4_SpanEither.j3 kj24 l0 a2 a3 x10_2 t489 (!t494) ((rd_T28 l0 x10_2).f0) ((rd_T28 l0 x10_2).f1))) else (postbaglaw4_SpanEither.j3 kj24 l0 a2 a3 x10_2 t489 false ((rd_T28 l0 x10_2).f0) ((rd_T28 l0 x10_2).f1)))) = some r := H
               have A38 := Aside0.mk A380
               clear A380
               by_cases c39 : (t489 != t493) = true
               ·rw [if_pos c39] at H
                have c39b0 : (t489 != t493) = true := c39
                (try (have c39b1 : decide (t489 = t493) = false := by simpa using c39))
                (try (have c39b2 : (t489 == t493) = false := by simpa using c39))
                (try (have c39b3 : ¬ (t489 = t493) := by simpa using c39))
                clear c39
                (first | rw [c39b0] | (simp only [i64_w, i32_w]; rw [c39b0]) | skip)
                have H' := Aside0.mk H
                clear H
                have hcz40_0 : w37.cell? ⟨gb485, 0, none⟩ = some (.int .i64 ((rd_T28 l0 x10_2).f0)) := (blk_cell BK485.out 0).trans rfl
                have hcz40_1 : w37.cell? ⟨gb485, 1, none⟩ = some (.int .i64 ((rd_T28 l0 x10_2).f1)) := (blk_cell BK485.out 1).trans rfl
                have hfz40_0 := blk_frozen BK485.out 0
                have hfz40_1 := blk_frozen BK485.out 1
                go_wp2_with (first | ((with_reducible refine gate_dst (N := 64) rfl ?_); (try (refine gate_guard (by rfl) ?_; dsimp only)); refine Kd.R_lit k28 _ 28 ?hg (N := 64) ?hd (xs := ([(⟨(rd_T28 l0 x10_2).f1, (rd_T28 l0 x10_2).f0⟩ : S28)] : List (S28))) (inner := [.int .i64 ((rd_T28 l0 x10_2).f1), .int .i64 ((rd_T28 l0 x10_2).f0)]) (ok := fun _ => True) (okp := fun _ => True) ?hr ?hp (fun _ hk => hk) trivial (Below.refl _ _) (Nat.le_refl _) (by simp) ?_; (case hd => rfl); (case hg => rfl); (case hr => first | (go_simp; done) | (go_simp; rfl)); (case hp => exact (Reps.c2 (show Kd.M k28 _ _ _ (⟨(rd_T28 l0 x10_2).f1, (rd_T28 l0 x10_2).f0⟩ : S28) [.int .i64 ((rd_T28 l0 x10_2).f1), .int .i64 ((rd_T28 l0 x10_2).f0)] from (k28_mkM _ _ _ (⟨(rd_T28 l0 x10_2).f1, (rd_T28 l0 x10_2).f0⟩ : S28) )) (Reps.none _ _))); intro v491 w41 ho42 hb hg_ hnew_; clear hg_ hnew_; (first | rw [← Ny490.out] at ho42 | (simp only [Int.reduceToNat] at ho42; rw [← Ny490.out] at ho42)); have n0_ := Aside0.mk (Kd.R_elder' (by (with_reducible repeat (first | apply Kd.R_alloc | apply Kd.R_drewN | apply Kd.R_drew)); exact HO488.out) (Kd.R_base ho42) hb); have n1_ := Aside0.mk (Kd.R_lower (Kd.R_newB (Kd.R_new' ho42 (Kd.R_lt (by (with_reducible repeat (first | apply Kd.R_alloc | apply Kd.R_drewN | apply Kd.R_drew)); exact HO488.out))) (g := gb485) (o := .cells #[.int .i64 ((rd_T28 l0 x10_2).f0), .int .i64 ((rd_T28 l0 x10_2).f1)] 28 (0, 0)) (by (with_reducible repeat (first | refine blk_drewN ?_ _ | refine blk_drew ?_ | refine blk_alloc ?_ _)); exact BK485.out)) (below_size (by repeat (first | (with_reducible first | exact HB.out | apply below_alloc | apply pw_below_drewN | apply below_drew1 | refine below_set ?_ GE485.out) | exact HB.out)))); have n2_ := Aside0.mk (blk_below (g := gb485) (o := .cells #[.int .i64 ((rd_T28 l0 x10_2).f0), .int .i64 ((rd_T28 l0 x10_2).f1)] 28 (0, 0)) (by (with_reducible repeat (first | refine blk_drewN ?_ _ | refine blk_drew ?_ | refine blk_alloc ?_ _)); exact BK485.out) hb); have n3_ := Aside0.mk (below_step (by repeat (first | (with_reducible first | exact HB.out | apply below_alloc | apply pw_below_drewN | apply below_drew1 | refine below_set ?_ GE485.out) | exact HB.out)) hb); clear HO488; clear BK485; clear HB; have HO488 := n0_; have HO492 := n1_; have BK485 := n2_; have HB := n3_; clear n0_ n1_ n2_ n3_; clear hb ho42; obtain ⟨Ao43, co43, eo43⟩ := Kd.R_slice HO492.out; subst eo43) | ((with_reducible refine gate_callee (f := 17) rfl ?_); refine goesL_ (some 67) rfl rfl Tryd.func17 (by kernel_rfl) rfl #[.slice Ao43 y490.length co43, .int .i64 a2, .int .i64 a3] rfl (by (try simp only [List.map_toArray, List.map_cons, List.map_nil]); first | done | rfl | (simp only [List.length_drop, List.length_take]; rfl)) ?_; (with_reducible refine (span_Has.calls _ _ y490 a2 a3 t493 _ ?side1 ?side2 A38.out).mono ?_); (case side1 => repeat (first | exact (Kd.R_reads' HO492.out).2.2 | (with_reducible refine Kd.C_alloc ?_ _) | (with_reducible refine Kd.C_drewN ?_ _) | (with_reducible refine Kd.C_drew ?_))); (case side2 => exact (Kd.R_reads' HO492.out).2.1); rintro e w44 ⟨rfl, hb⟩; refine ⟨_, rfl, ?_⟩; have n0_ := Aside0.mk (Kd.R_below (by (with_reducible repeat (first | apply Kd.R_alloc | apply Kd.R_drewN | apply Kd.R_drew)); exact HO488.out) hb); have n1_ := Aside0.mk (Kd.R_below (by (with_reducible repeat (first | apply Kd.R_alloc | apply Kd.R_drewN | apply Kd.R_drew)); exact HO492.out) hb); have n2_ := Aside0.mk (blk_below (g := gb485) (o := .cells #[.int .i64 ((rd_T28 l0 x10_2).f0), .int .i64 ((rd_T28 l0 x10_2).f1)] 28 (0, 0)) (by (with_reducible repeat (first | refine blk_drewN ?_ _ | refine blk_drew ?_ | refine blk_alloc ?_ _)); exact BK485.out) hb); have n3_ := Aside0.mk (below_step (by repeat (first | (with_reducible first | exact HB.out | apply below_alloc | apply pw_below_drewN | apply below_drew1 | refine below_set ?_ GE485.out) | exact HB.out)) hb); clear HO488; clear HO492; clear BK485; clear HB; have HO488 := n0_; have HO492 := n1_; have BK485 := n2_; have HB := n3_; clear n0_ n1_ n2_ n3_; (try clear hb); (try clear hb2); (try clear hk); (try clear hi)))
                go_meet
                case rel => exact ⟨_, (true), (by first | rfl | (simp; done) | (simp [*]; done)), H', ⟨by have := HJ7.out; have := HK2.out; have := HJ24.out; first | omega | exact Nat.le_refl _⟩, ⟨by (with_reducible repeat (first | refine blk_drewN ?_ _ | refine blk_drew ?_ | refine blk_alloc ?_ _)); exact BK485.out⟩, ⟨by repeat (first | (with_reducible first | exact HB.out | apply below_alloc | apply pw_below_drewN | apply below_drew1 | refine below_set ?_ GE485.out) | exact HB.out)⟩⟩
               ·rw [if_neg c39] at H
                have c39b0 : (t489 != t493) = false := by simpa using c39
                (try (have c39b1 : decide (t489 = t493) = true := by simpa using c39))
                (try (have c39b2 : (t489 == t493) = true := by simpa using c39))
                clear c39
                (first | rw [c39b0] | (simp only [i64_w, i32_w]; rw [c39b0]) | skip)
                by_cases c45 : t489 = true
                ·subst c45
                 have H1 : ((span_Has.f l0 a2 a3).bind fun t494 => (postbaglaw4_SpanEither.j3 kj24 l0 a2 a3 x10_2 true (!t494) ((rd_T28 l0 x10_2).f0) ((rd_T28 l0 x10_2).f1))) = some r := by rw [if_pos rfl] at H; exact H
                 clear H
                 have H := H1
                 clear H1
                 replace H := Option.bind_eq_some_iff.mp H
                 obtain ⟨t494, A460, H⟩ := H
                 replace H : (postbaglaw4_SpanEither.j3 kj24 l0 a2 a3 x10_2 true (!t494) ((rd_T28 l0 x10_2).f0) ((rd_T28 l0 x10_2).f1)) = some r := H
                 have A46 := Aside0.mk A460
                 clear A460
                 have H' := Aside0.mk H
                 clear H
                 have hcz47_0 : w37.cell? ⟨gb485, 0, none⟩ = some (.int .i64 ((rd_T28 l0 x10_2).f0)) := (blk_cell BK485.out 0).trans rfl
                 have hcz47_1 : w37.cell? ⟨gb485, 1, none⟩ = some (.int .i64 ((rd_T28 l0 x10_2).f1)) := (blk_cell BK485.out 1).trans rfl
                 have hfz47_0 := blk_frozen BK485.out 0
                 have hfz47_1 := blk_frozen BK485.out 1
                 go_wp2_with (first | ((with_reducible refine gate_dst (N := 64) rfl ?_); (try (refine gate_guard (by rfl) ?_; dsimp only)); refine Kd.R_lit k28 _ 28 ?hg (N := 64) ?hd (xs := ([(⟨(rd_T28 l0 x10_2).f1, (rd_T28 l0 x10_2).f0⟩ : S28)] : List (S28))) (inner := [.int .i64 ((rd_T28 l0 x10_2).f1), .int .i64 ((rd_T28 l0 x10_2).f0)]) (ok := fun _ => True) (okp := fun _ => True) ?hr ?hp (fun _ hk => hk) trivial (Below.refl _ _) (Nat.le_refl _) (by simp) ?_; (case hd => rfl); (case hg => rfl); (case hr => first | (go_simp; done) | (go_simp; rfl)); (case hp => exact (Reps.c2 (show Kd.M k28 _ _ _ (⟨(rd_T28 l0 x10_2).f1, (rd_T28 l0 x10_2).f0⟩ : S28) [.int .i64 ((rd_T28 l0 x10_2).f1), .int .i64 ((rd_T28 l0 x10_2).f0)] from (k28_mkM _ _ _ (⟨(rd_T28 l0 x10_2).f1, (rd_T28 l0 x10_2).f0⟩ : S28) )) (Reps.none _ _))); intro v491 w48 ho49 hb hg_ hnew_; clear hg_ hnew_; (first | rw [← Ny490.out] at ho49 | (simp only [Int.reduceToNat] at ho49; rw [← Ny490.out] at ho49)); have n0_ := Aside0.mk (Kd.R_elder' (by (with_reducible repeat (first | apply Kd.R_alloc | apply Kd.R_drewN | apply Kd.R_drew)); exact HO488.out) (Kd.R_base ho49) hb); have n1_ := Aside0.mk (Kd.R_lower (Kd.R_newB (Kd.R_new' ho49 (Kd.R_lt (by (with_reducible repeat (first | apply Kd.R_alloc | apply Kd.R_drewN | apply Kd.R_drew)); exact HO488.out))) (g := gb485) (o := .cells #[.int .i64 ((rd_T28 l0 x10_2).f0), .int .i64 ((rd_T28 l0 x10_2).f1)] 28 (0, 0)) (by (with_reducible repeat (first | refine blk_drewN ?_ _ | refine blk_drew ?_ | refine blk_alloc ?_ _)); exact BK485.out)) (below_size (by repeat (first | (with_reducible first | exact HB.out | apply below_alloc | apply pw_below_drewN | apply below_drew1 | refine below_set ?_ GE485.out) | exact HB.out)))); have n2_ := Aside0.mk (blk_below (g := gb485) (o := .cells #[.int .i64 ((rd_T28 l0 x10_2).f0), .int .i64 ((rd_T28 l0 x10_2).f1)] 28 (0, 0)) (by (with_reducible repeat (first | refine blk_drewN ?_ _ | refine blk_drew ?_ | refine blk_alloc ?_ _)); exact BK485.out) hb); have n3_ := Aside0.mk (below_step (by repeat (first | (with_reducible first | exact HB.out | apply below_alloc | apply pw_below_drewN | apply below_drew1 | refine below_set ?_ GE485.out) | exact HB.out)) hb); clear HO488; clear BK485; clear HB; have HO488 := n0_; have HO492 := n1_; have BK485 := n2_; have HB := n3_; clear n0_ n1_ n2_ n3_; clear hb ho49; obtain ⟨Ao50, co50, eo50⟩ := Kd.R_slice HO492.out; subst eo50) | ((with_reducible refine gate_callee (f := 17) rfl ?_); refine goesL_ (some 67) rfl rfl Tryd.func17 (by kernel_rfl) rfl #[.slice Ao50 y490.length co50, .int .i64 a2, .int .i64 a3] rfl (by (try simp only [List.map_toArray, List.map_cons, List.map_nil]); first | done | rfl | (simp only [List.length_drop, List.length_take]; rfl)) ?_; (with_reducible refine (span_Has.calls _ _ y490 a2 a3 t493 _ ?side1 ?side2 A38.out).mono ?_); (case side1 => repeat (first | exact (Kd.R_reads' HO492.out).2.2 | (with_reducible refine Kd.C_alloc ?_ _) | (with_reducible refine Kd.C_drewN ?_ _) | (with_reducible refine Kd.C_drew ?_))); (case side2 => exact (Kd.R_reads' HO492.out).2.1); rintro e w51 ⟨rfl, hb⟩; refine ⟨_, rfl, ?_⟩; have n0_ := Aside0.mk (Kd.R_below (by (with_reducible repeat (first | apply Kd.R_alloc | apply Kd.R_drewN | apply Kd.R_drew)); exact HO488.out) hb); have n1_ := Aside0.mk (Kd.R_below (by (with_reducible repeat (first | apply Kd.R_alloc | apply Kd.R_drewN | apply Kd.R_drew)); exact HO492.out) hb); have n2_ := Aside0.mk (blk_below (g := gb485) (o := .cells #[.int .i64 ((rd_T28 l0 x10_2).f0), .int .i64 ((rd_T28 l0 x10_2).f1)] 28 (0, 0)) (by (with_reducible repeat (first | refine blk_drewN ?_ _ | refine blk_drew ?_ | refine blk_alloc ?_ _)); exact BK485.out) hb); have n3_ := Aside0.mk (below_step (by repeat (first | (with_reducible first | exact HB.out | apply below_alloc | apply pw_below_drewN | apply below_drew1 | refine below_set ?_ GE485.out) | exact HB.out)) hb); clear HO488; clear HO492; clear BK485; clear HB; have HO488 := n0_; have HO492 := n1_; have BK485 := n2_; have HB := n3_; clear n0_ n1_ n2_ n3_; (try clear hb); (try clear hb2); (try clear hk); (try clear hi)) | (go_at_call 17; (with_reducible refine (span_Has.calls _ _ l0 a2 a3 t494 _ ?side1 ?side2 A46.out).mono ?_); (case side1 => repeat (first | exact (Kd.C_below HR0.out HB.out) | (with_reducible refine Kd.C_alloc ?_ _) | (with_reducible refine Kd.C_drewN ?_ _) | (with_reducible refine Kd.C_drew ?_))); (case side2 => exact HC0.out); rintro e w52 ⟨rfl, hb⟩; have n0_ := Aside0.mk (Kd.R_below (by (with_reducible repeat (first | apply Kd.R_alloc | apply Kd.R_drewN | apply Kd.R_drew)); exact HO488.out) hb); have n1_ := Aside0.mk (Kd.R_below (by (with_reducible repeat (first | apply Kd.R_alloc | apply Kd.R_drewN | apply Kd.R_drew)); exact HO492.out) hb); have n2_ := Aside0.mk (blk_below (g := gb485) (o := .cells #[.int .i64 ((rd_T28 l0 x10_2).f0), .int .i64 ((rd_T28 l0 x10_2).f1)] 28 (0, 0)) (by (with_reducible repeat (first | refine blk_drewN ?_ _ | refine blk_drew ?_ | refine blk_alloc ?_ _)); exact BK485.out) hb); have n3_ := Aside0.mk (below_step (by repeat (first | (with_reducible first | exact HB.out | apply below_alloc | apply pw_below_drewN | apply below_drew1 | refine below_set ?_ GE485.out) | exact HB.out)) hb); clear HO488; clear HO492; clear BK485; clear HB; have HO488 := n0_; have HO492 := n1_; have BK485 := n2_; have HB := n3_; clear n0_ n1_ n2_ n3_; (try clear hb); (try clear hb2); (try clear hk); (try clear hi)))
                 go_meet
                 case rel => exact ⟨_, (!t494), (by first | rfl | (simp; done) | (simp [*]; done)), H', ⟨by have := HJ7.out; have := HK2.out; have := HJ24.out; first | omega | exact Nat.le_refl _⟩, ⟨by (with_reducible repeat (first | refine blk_drewN ?_ _ | refine blk_drew ?_ | refine blk_alloc ?_ _)); exact BK485.out⟩, ⟨by repeat (first | (with_reducible first | exact HB.out | apply below_alloc | apply pw_below_drewN | apply below_drew1 | refine below_set ?_ GE485.out) | exact HB.out)⟩⟩
                ·replace c45 := Bool.eq_false_iff.mpr c45
                 subst c45
                 have H1 : (postbaglaw4_SpanEither.j3 kj24 l0 a2 a3 x10_2 false false ((rd_T28 l0 x10_2).f0) ((rd_T28 l0 x10_2).f1)) = some r := by rw [if_neg (show ¬ (false = true) by decide)] at H; exact H
                 clear H
                 have H := H1
                 clear H1
                 have H' := Aside0.mk H
                 clear H
                 have hcz53_0 : w37.cell? ⟨gb485, 0, none⟩ = some (.int .i64 ((rd_T28 l0 x10_2).f0)) := (blk_cell BK485.out 0).trans rfl
                 have hcz53_1 : w37.cell? ⟨gb485, 1, none⟩ = some (.int .i64 ((rd_T28 l0 x10_2).f1)) := (blk_cell BK485.out 1).trans rfl
                 have hfz53_0 := blk_frozen BK485.out 0
                 have hfz53_1 := blk_frozen BK485.out 1
                 go_wp2_with (first | ((with_reducible refine gate_dst (N := 64) rfl ?_); (try (refine gate_guard (by rfl) ?_; dsimp only)); refine Kd.R_lit k28 _ 28 ?hg (N := 64) ?hd (xs := ([(⟨(rd_T28 l0 x10_2).f1, (rd_T28 l0 x10_2).f0⟩ : S28)] : List (S28))) (inner := [.int .i64 ((rd_T28 l0 x10_2).f1), .int .i64 ((rd_T28 l0 x10_2).f0)]) (ok := fun _ => True) (okp := fun _ => True) ?hr ?hp (fun _ hk => hk) trivial (Below.refl _ _) (Nat.le_refl _) (by simp) ?_; (case hd => rfl); (case hg => rfl); (case hr => first | (go_simp; done) | (go_simp; rfl)); (case hp => exact (Reps.c2 (show Kd.M k28 _ _ _ (⟨(rd_T28 l0 x10_2).f1, (rd_T28 l0 x10_2).f0⟩ : S28) [.int .i64 ((rd_T28 l0 x10_2).f1), .int .i64 ((rd_T28 l0 x10_2).f0)] from (k28_mkM _ _ _ (⟨(rd_T28 l0 x10_2).f1, (rd_T28 l0 x10_2).f0⟩ : S28) )) (Reps.none _ _))); intro v491 w54 ho55 hb hg_ hnew_; clear hg_ hnew_; (first | rw [← Ny490.out] at ho55 | (simp only [Int.reduceToNat] at ho55; rw [← Ny490.out] at ho55)); have n0_ := Aside0.mk (Kd.R_elder' (by (with_reducible repeat (first | apply Kd.R_alloc | apply Kd.R_drewN | apply Kd.R_drew)); exact HO488.out) (Kd.R_base ho55) hb); have n1_ := Aside0.mk (Kd.R_lower (Kd.R_newB (Kd.R_new' ho55 (Kd.R_lt (by (with_reducible repeat (first | apply Kd.R_alloc | apply Kd.R_drewN | apply Kd.R_drew)); exact HO488.out))) (g := gb485) (o := .cells #[.int .i64 ((rd_T28 l0 x10_2).f0), .int .i64 ((rd_T28 l0 x10_2).f1)] 28 (0, 0)) (by (with_reducible repeat (first | refine blk_drewN ?_ _ | refine blk_drew ?_ | refine blk_alloc ?_ _)); exact BK485.out)) (below_size (by repeat (first | (with_reducible first | exact HB.out | apply below_alloc | apply pw_below_drewN | apply below_drew1 | refine below_set ?_ GE485.out) | exact HB.out)))); have n2_ := Aside0.mk (blk_below (g := gb485) (o := .cells #[.int .i64 ((rd_T28 l0 x10_2).f0), .int .i64 ((rd_T28 l0 x10_2).f1)] 28 (0, 0)) (by (with_reducible repeat (first | refine blk_drewN ?_ _ | refine blk_drew ?_ | refine blk_alloc ?_ _)); exact BK485.out) hb); have n3_ := Aside0.mk (below_step (by repeat (first | (with_reducible first | exact HB.out | apply below_alloc | apply pw_below_drewN | apply below_drew1 | refine below_set ?_ GE485.out) | exact HB.out)) hb); clear HO488; clear BK485; clear HB; have HO488 := n0_; have HO492 := n1_; have BK485 := n2_; have HB := n3_; clear n0_ n1_ n2_ n3_; clear hb ho55; obtain ⟨Ao56, co56, eo56⟩ := Kd.R_slice HO492.out; subst eo56) | ((with_reducible refine gate_callee (f := 17) rfl ?_); refine goesL_ (some 67) rfl rfl Tryd.func17 (by kernel_rfl) rfl #[.slice Ao56 y490.length co56, .int .i64 a2, .int .i64 a3] rfl (by (try simp only [List.map_toArray, List.map_cons, List.map_nil]); first | done | rfl | (simp only [List.length_drop, List.length_take]; rfl)) ?_; (with_reducible refine (span_Has.calls _ _ y490 a2 a3 t493 _ ?side1 ?side2 A38.out).mono ?_); (case side1 => repeat (first | exact (Kd.R_reads' HO492.out).2.2 | (with_reducible refine Kd.C_alloc ?_ _) | (with_reducible refine Kd.C_drewN ?_ _) | (with_reducible refine Kd.C_drew ?_))); (case side2 => exact (Kd.R_reads' HO492.out).2.1); rintro e w57 ⟨rfl, hb⟩; refine ⟨_, rfl, ?_⟩; have n0_ := Aside0.mk (Kd.R_below (by (with_reducible repeat (first | apply Kd.R_alloc | apply Kd.R_drewN | apply Kd.R_drew)); exact HO488.out) hb); have n1_ := Aside0.mk (Kd.R_below (by (with_reducible repeat (first | apply Kd.R_alloc | apply Kd.R_drewN | apply Kd.R_drew)); exact HO492.out) hb); have n2_ := Aside0.mk (blk_below (g := gb485) (o := .cells #[.int .i64 ((rd_T28 l0 x10_2).f0), .int .i64 ((rd_T28 l0 x10_2).f1)] 28 (0, 0)) (by (with_reducible repeat (first | refine blk_drewN ?_ _ | refine blk_drew ?_ | refine blk_alloc ?_ _)); exact BK485.out) hb); have n3_ := Aside0.mk (below_step (by repeat (first | (with_reducible first | exact HB.out | apply below_alloc | apply pw_below_drewN | apply below_drew1 | refine below_set ?_ GE485.out) | exact HB.out)) hb); clear HO488; clear HO492; clear BK485; clear HB; have HO488 := n0_; have HO492 := n1_; have BK485 := n2_; have HB := n3_; clear n0_ n1_ n2_ n3_; (try clear hb); (try clear hb2); (try clear hk); (try clear hi)))
                 go_meet
                 case rel => exact ⟨_, (false), (by first | rfl | (simp; done) | (simp [*]; done)), H', ⟨by have := HJ7.out; have := HK2.out; have := HJ24.out; first | omega | exact Nat.le_refl _⟩, ⟨by (with_reducible repeat (first | refine blk_drewN ?_ _ | refine blk_drew ?_ | refine blk_alloc ?_ _)); exact BK485.out⟩, ⟨by repeat (first | (with_reducible first | exact HB.out | apply below_alloc | apply pw_below_drewN | apply below_drew1 | refine below_set ?_ GE485.out) | exact HB.out)⟩⟩
              case rest =>
               clear HC31
               try clear c1
               try clear c2
               try clear p2
               try clear c3
               try clear c4
               try clear p4
               try clear q4
               try clear hx4
               try clear c5
               try clear c5b0
               try clear c6
               try clear p6
               try clear c7
               try clear c12
               try clear c15
               try clear c17
               try clear c24
               try clear c26
               try clear c26b0
               try clear c27
               try clear c28
               try clear c28b0
               try clear c29
               try clear c29b0
               try clear c39
               try clear c39b0
               try clear c39b1
               try clear c39b2
               try clear c45
               try clear p48
               try clear q48
               try clear hx48
               try clear hcz33_0
               try clear hcz33_1
               try clear hcz40_0
               try clear hcz40_1
               try clear hcz47_0
               try clear hcz47_1
               try clear hcz53_0
               try clear hcz53_1
               try clear hfz33_0
               try clear hfz33_1
               try clear hfz40_0
               try clear hfz40_1
               try clear hfz47_0
               try clear hfz47_1
               try clear hfz53_0
               try clear hfz53_1
               try clear hx484_0
               try clear hx484_1
               try clear p2
               try clear p484
               try clear p6
               try clear q484
               obtain ⟨kq, x78_30, rfl, HA, HJ30, BK485, HB⟩ := hcut
               cases kq with
               | zero => exact absurd HA.out (by simp [postbaglaw4_SpanEither.j3])
               | succ kj30 =>
                have H := HA.out
                clear HA
                simp only [postbaglaw4_SpanEither.j3] at H
                by_cases c58 : x78_30 = true
                ·subst c58
                 have H1 : (some false) = some r := by rw [if_pos rfl] at H; exact H
                 clear H
                 have H := H1
                 clear H1
                 obtain rfl := Option.some.inj H
                 go_wp2
                 go_ret
                 exact ⟨by first | rfl | (simp [errW_none, errW_some] <;> rfl) | (simp [*, errW_none, errW_some] <;> rfl), by repeat (first | (with_reducible first | exact HB.out | apply below_alloc | apply pw_below_drewN | apply below_drew1 | refine below_set ?_ GE485.out) | exact HB.out)⟩
                ·replace c58 := Bool.eq_false_iff.mpr c58
                 subst c58
                 have H1 : (if ((rd_T28 l0 x10_2).f0) = 0 then (if a3 ≥ 1 then (if a3 ≤ 4294967295 then ((span_Has.f (([(⟨a3, ((rd_T28 l0 x10_2).f1)⟩ : S28)] : List (S28))) a2 a3).bind fun t498 => (postbaglaw4_SpanEither.j4 kj30 l0 a2 a3 x10_2 t489 (t489 != t498) ((rd_T28 l0 x10_2).f0) ((rd_T28 l0 x10_2).f1))) else (postbaglaw4_SpanEither.j4 kj30 l0 a2 a3 x10_2 t489 false ((rd_T28 l0 x10_2).f0) ((rd_T28 l0 x10_2).f1))) else (postbaglaw4_SpanEither.j4 kj30 l0 a2 a3 x10_2 t489 false ((rd_T28 l0 x10_2).f0) ((rd_T28 l0 x10_2).f1))) else (postbaglaw4_SpanEither.j4 kj30 l0 a2 a3 x10_2 t489 false ((rd_T28 l0 x10_2).f0) ((rd_T28 l0 x10_2).f1))) = some r := by rw [if_neg (show ¬ (false = true) by decide)] at H; exact H
                 clear H
                 have H := H1
                 clear H1
                 have HC59 := Aside0.mk H
                 clear H
                 go_upto_region 13 with (fail)
                 go_cut [101] (fun v101 wc => ∃ (kq : Nat) (x101_58 : Bool), v101 = .bool x101_58 ∧ Aside0 (postbaglaw4_SpanEither.j4 kq l0 a2 a3 x10_2 t489 x101_58 ((rd_T28 l0 x10_2).f0) ((rd_T28 l0 x10_2).f1) = some r) ∧ Aside0 (kq ≤ kj30) ∧ Aside0 (wc.heap[gb485]? = some (.cells #[.int .i64 ((rd_T28 l0 x10_2).f0), .int .i64 ((rd_T28 l0 x10_2).f1)] 28 (0, 0))) ∧ Aside0 (Below w.heap.size w wc))
                 case first =>
                  have H := HC59.out
                  clear HC59
                  by_cases c60 : ((rd_T28 l0 x10_2).f0) = 0
                  ·rw [if_pos c60] at H
                   have c60b0 : (((rd_T28 l0 x10_2).f0) == 0) = true := beq_iff_eq.mpr c60
                   have c60b1 : (((rd_T28 l0 x10_2).f0) != 0) = false := bne_eq_false_iff_eq.mpr c60
                   clear c60
                   (first | rw [c60b0] | (simp only [i64_w, i32_w]; rw [c60b0]) | skip)
                   by_cases c61 : a3 ≥ 1
                   ·rw [if_pos c61] at H
                    have c61b0 : decide (1 ≤ a3) = true := decide_eq_true c61
                    clear c61
                    by_cases c62 : a3 ≤ 4294967295
                    ·rw [if_pos c62] at H
                     have c62b0 : decide (a3 ≤ 4294967295) = true := decide_eq_true c62
                     clear c62
                     obtain ⟨y495, hy495⟩ : ∃ y_ : List (S28), y_ = (([(⟨a3, ((rd_T28 l0 x10_2).f1)⟩ : S28)] : List (S28))) := ⟨_, rfl⟩
                     replace H : ((span_Has.f y495 a2 a3).bind fun t498 => (postbaglaw4_SpanEither.j4 kj30 l0 a2 a3 x10_2 t489 (t489 != t498) ((rd_T28 l0 x10_2).f0) ((rd_T28 l0 x10_2).f1))) = some r := by first | (rw [hy495]; with_reducible exact H) | (have H2_ := (Option.bind_some _ _).symm.trans H; rw [hy495]; with_reducible exact H2_) | (have H2_ := (Option.bind_some _ _).symm.trans H; with_reducible exact H2_) | with_reducible exact H | (rw [hy495]; exact H) | exact H
                     have Ny495 := Aside0.mk hy495
                     clear hy495
                     replace H := Option.bind_eq_some_iff.mp H
                     obtain ⟨t498, A630, H⟩ := H
                     replace H : (postbaglaw4_SpanEither.j4 kj30 l0 a2 a3 x10_2 t489 (t489 != t498) ((rd_T28 l0 x10_2).f0) ((rd_T28 l0 x10_2).f1)) = some r := H
                     have A63 := Aside0.mk A630
                     clear A630
                     have H' := Aside0.mk H
                     clear H
                     have hcz64_0 : wc.cell? ⟨gb485, 0, none⟩ = some (.int .i64 ((rd_T28 l0 x10_2).f0)) := (blk_cell BK485.out 0).trans rfl
                     have hcz64_1 : wc.cell? ⟨gb485, 1, none⟩ = some (.int .i64 ((rd_T28 l0 x10_2).f1)) := (blk_cell BK485.out 1).trans rfl
                     have hfz64_0 := blk_frozen BK485.out 0
                     have hfz64_1 := blk_frozen BK485.out 1
                     go_wp2_with (first | ((with_reducible refine gate_dst (N := 96) rfl ?_); (try (refine gate_guard (by rfl) ?_; dsimp only)); refine Kd.R_lit k28 _ 28 ?hg (N := 96) ?hd (xs := ([(⟨a3, ((rd_T28 l0 x10_2).f1)⟩ : S28)] : List (S28))) (inner := [.int .i64 a3, .int .i64 ((rd_T28 l0 x10_2).f1)]) (ok := fun _ => True) (okp := fun _ => True) ?hr ?hp (fun _ hk => hk) trivial (Below.refl _ _) (Nat.le_refl _) (by simp) ?_; (case hd => rfl); (case hg => rfl); (case hr => first | (go_simp; done) | (go_simp; rfl)); (case hp => exact (Reps.c2 (show Kd.M k28 _ _ _ (⟨a3, ((rd_T28 l0 x10_2).f1)⟩ : S28) [.int .i64 a3, .int .i64 ((rd_T28 l0 x10_2).f1)] from (k28_mkM _ _ _ (⟨a3, ((rd_T28 l0 x10_2).f1)⟩ : S28) )) (Reps.none _ _))); intro v496 w65 ho66 hb hg_ hnew_; clear hg_ hnew_; (first | rw [← Ny495.out] at ho66 | (simp only [Int.reduceToNat] at ho66; rw [← Ny495.out] at ho66)); have n0_ := Aside0.mk (Kd.R_lower (Kd.R_newB ho66 (g := gb485) (o := .cells #[.int .i64 ((rd_T28 l0 x10_2).f0), .int .i64 ((rd_T28 l0 x10_2).f1)] 28 (0, 0)) (by (with_reducible repeat (first | refine blk_drewN ?_ _ | refine blk_drew ?_ | refine blk_alloc ?_ _)); exact BK485.out)) (below_size (by repeat (first | (with_reducible first | exact HB.out | apply below_alloc | apply pw_below_drewN | apply below_drew1 | refine below_set ?_ GE485.out) | exact HB.out)))); have n1_ := Aside0.mk (blk_below (g := gb485) (o := .cells #[.int .i64 ((rd_T28 l0 x10_2).f0), .int .i64 ((rd_T28 l0 x10_2).f1)] 28 (0, 0)) (by (with_reducible repeat (first | refine blk_drewN ?_ _ | refine blk_drew ?_ | refine blk_alloc ?_ _)); exact BK485.out) hb); have n2_ := Aside0.mk (below_step (by repeat (first | (with_reducible first | exact HB.out | apply below_alloc | apply pw_below_drewN | apply below_drew1 | refine below_set ?_ GE485.out) | exact HB.out)) hb); clear BK485; clear HB; have HO497 := n0_; have BK485 := n1_; have HB := n2_; clear n0_ n1_ n2_; clear hb ho66; obtain ⟨Ao67, co67, eo67⟩ := Kd.R_slice HO497.out; subst eo67) | (go_at_call 17; (with_reducible refine (span_Has.calls _ _ y495 a2 a3 t498 _ ?side1 ?side2 A63.out).mono ?_); (case side1 => repeat (first | exact (Kd.R_reads' HO497.out).2.2 | (with_reducible refine Kd.C_alloc ?_ _) | (with_reducible refine Kd.C_drewN ?_ _) | (with_reducible refine Kd.C_drew ?_))); (case side2 => exact (Kd.R_reads' HO497.out).2.1); rintro e w68 ⟨rfl, hb⟩; have n0_ := Aside0.mk (Kd.R_below (by (with_reducible repeat (first | apply Kd.R_alloc | apply Kd.R_drewN | apply Kd.R_drew)); exact HO497.out) hb); have n1_ := Aside0.mk (blk_below (g := gb485) (o := .cells #[.int .i64 ((rd_T28 l0 x10_2).f0), .int .i64 ((rd_T28 l0 x10_2).f1)] 28 (0, 0)) (by (with_reducible repeat (first | refine blk_drewN ?_ _ | refine blk_drew ?_ | refine blk_alloc ?_ _)); exact BK485.out) hb); have n2_ := Aside0.mk (below_step (by repeat (first | (with_reducible first | exact HB.out | apply below_alloc | apply pw_below_drewN | apply below_drew1 | refine below_set ?_ GE485.out) | exact HB.out)) hb); clear HO497; clear BK485; clear HB; have HO497 := n0_; have BK485 := n1_; have HB := n2_; clear n0_ n1_ n2_; (try clear hb); (try clear hb2); (try clear hk); (try clear hi)))
                     go_meet
                     case rel => exact ⟨_, ((t489 != t498)), (by first | rfl | (simp; done) | (simp [*]; done)), H', ⟨by have := HJ7.out; have := HK2.out; have := HJ24.out; have := HJ30.out; first | omega | exact Nat.le_refl _⟩, ⟨by (with_reducible repeat (first | refine blk_drewN ?_ _ | refine blk_drew ?_ | refine blk_alloc ?_ _)); exact BK485.out⟩, ⟨by repeat (first | (with_reducible first | exact HB.out | apply below_alloc | apply pw_below_drewN | apply below_drew1 | refine below_set ?_ GE485.out) | exact HB.out)⟩⟩
                    ·rw [if_neg c62] at H
                     have c62b0 : decide (a3 ≤ 4294967295) = false := decide_eq_false c62
                     clear c62
                     have H' := Aside0.mk H
                     clear H
                     have hcz69_0 : wc.cell? ⟨gb485, 0, none⟩ = some (.int .i64 ((rd_T28 l0 x10_2).f0)) := (blk_cell BK485.out 0).trans rfl
                     have hcz69_1 : wc.cell? ⟨gb485, 1, none⟩ = some (.int .i64 ((rd_T28 l0 x10_2).f1)) := (blk_cell BK485.out 1).trans rfl
                     have hfz69_0 := blk_frozen BK485.out 0
                     have hfz69_1 := blk_frozen BK485.out 1
                     go_wp2
                     go_meet
                     case rel => exact ⟨_, (false), (by first | rfl | (simp; done) | (simp [*]; done)), H', ⟨by have := HJ7.out; have := HK2.out; have := HJ24.out; have := HJ30.out; first | omega | exact Nat.le_refl _⟩, ⟨by (with_reducible repeat (first | refine blk_drewN ?_ _ | refine blk_drew ?_ | refine blk_alloc ?_ _)); exact BK485.out⟩, ⟨by repeat (first | (with_reducible first | exact HB.out | apply below_alloc | apply pw_below_drewN | apply below_drew1 | refine below_set ?_ GE485.out) | exact HB.out)⟩⟩
                   ·rw [if_neg c61] at H
                    have c61b0 : decide (1 ≤ a3) = false := decide_eq_false c61
                    clear c61
                    have H' := Aside0.mk H
                    clear H
                    have hcz70_0 : wc.cell? ⟨gb485, 0, none⟩ = some (.int .i64 ((rd_T28 l0 x10_2).f0)) := (blk_cell BK485.out 0).trans rfl
                    have hcz70_1 : wc.cell? ⟨gb485, 1, none⟩ = some (.int .i64 ((rd_T28 l0 x10_2).f1)) := (blk_cell BK485.out 1).trans rfl
                    have hfz70_0 := blk_frozen BK485.out 0
                    have hfz70_1 := blk_frozen BK485.out 1
                    go_wp2
                    go_meet
                    case rel => exact ⟨_, (false), (by first | rfl | (simp; done) | (simp [*]; done)), H', ⟨by have := HJ7.out; have := HK2.out; have := HJ24.out; have := HJ30.out; first | omega | exact Nat.le_refl _⟩, ⟨by (with_reducible repeat (first | refine blk_drewN ?_ _ | refine blk_drew ?_ | refine blk_alloc ?_ _)); exact BK485.out⟩, ⟨by repeat (first | (with_reducible first | exact HB.out | apply below_alloc | apply pw_below_drewN | apply below_drew1 | refine below_set ?_ GE485.out) | exact HB.out)⟩⟩
                  ·rw [if_neg c60] at H
                   have c60b0 : (((rd_T28 l0 x10_2).f0) == 0) = false := beq_eq_false_iff_ne.mpr c60
                   have c60b1 : (((rd_T28 l0 x10_2).f0) != 0) = true := bne_iff_ne.mpr c60
                   (first | rw [c60b0] | (simp only [i64_w, i32_w]; rw [c60b0]) | skip)
                   have H' := Aside0.mk H
                   clear H
                   have hcz71_0 : wc.cell? ⟨gb485, 0, none⟩ = some (.int .i64 ((rd_T28 l0 x10_2).f0)) := (blk_cell BK485.out 0).trans rfl
                   have hcz71_1 : wc.cell? ⟨gb485, 1, none⟩ = some (.int .i64 ((rd_T28 l0 x10_2).f1)) := (blk_cell BK485.out 1).trans rfl
                   have hfz71_0 := blk_frozen BK485.out 0
                   have hfz71_1 := blk_frozen BK485.out 1
                   go_wp2
                   go_meet
                   case rel => exact ⟨_, (false), (by first | rfl | (simp; done) | (simp [*]; done)), H', ⟨by have := HJ7.out; have := HK2.out; have := HJ24.out; have := HJ30.out; first | omega | exact Nat.le_refl _⟩, ⟨by (with_reducible repeat (first | refine blk_drewN ?_ _ | refine blk_drew ?_ | refine blk_alloc ?_ _)); exact BK485.out⟩, ⟨by repeat (first | (with_reducible first | exact HB.out | apply below_alloc | apply pw_below_drewN | apply below_drew1 | refine below_set ?_ GE485.out) | exact HB.out)⟩⟩
                 case rest =>
                  clear HC59
                  try clear c1
                  try clear c2
                  try clear p2
                  try clear c3
                  try clear c4
                  try clear p4
                  try clear q4
                  try clear hx4
                  try clear c5
                  try clear c5b0
                  try clear c6
                  try clear p6
                  try clear c7
                  try clear c12
                  try clear c15
                  try clear c17
                  try clear c24
                  try clear c26
                  try clear c26b0
                  try clear c27
                  try clear c28
                  try clear c28b0
                  try clear c29
                  try clear c29b0
                  try clear c39
                  try clear c39b0
                  try clear c39b1
                  try clear c39b2
                  try clear c45
                  try clear p48
                  try clear q48
                  try clear hx48
                  try clear c58
                  try clear c60
                  try clear c60b0
                  try clear c60b1
                  try clear c61
                  try clear c61b0
                  try clear c62
                  try clear c62b0
                  try clear p64
                  try clear hcz33_0
                  try clear hcz33_1
                  try clear hcz40_0
                  try clear hcz40_1
                  try clear hcz47_0
                  try clear hcz47_1
                  try clear hcz53_0
                  try clear hcz53_1
                  try clear hcz64_0
                  try clear hcz64_1
                  try clear hcz69_0
                  try clear hcz69_1
                  try clear hcz70_0
                  try clear hcz70_1
                  try clear hcz71_0
                  try clear hcz71_1
                  try clear hfz33_0
                  try clear hfz33_1
                  try clear hfz40_0
                  try clear hfz40_1
                  try clear hfz47_0
                  try clear hfz47_1
                  try clear hfz53_0
                  try clear hfz53_1
                  try clear hfz64_0
                  try clear hfz64_1
                  try clear hfz69_0
                  try clear hfz69_1
                  try clear hfz70_0
                  try clear hfz70_1
                  try clear hfz71_0
                  try clear hfz71_1
                  try clear hx484_0
                  try clear hx484_1
                  try clear p2
                  try clear p4
                  try clear p48
                  try clear p484
                  try clear p6
                  try clear q4
                  try clear q48
                  try clear q484
                  obtain ⟨kq, x101_58, rfl, HA, HJ58, BK485, HB⟩ := hcut
                  cases kq with
                  | zero => exact absurd HA.out (by simp [postbaglaw4_SpanEither.j4])
                  | succ kj58 =>
                   have H := HA.out
                   clear HA
                   simp only [postbaglaw4_SpanEither.j4] at H
                   by_cases c72 : x101_58 = true
                   ·subst c72
                    have H1 : (some false) = some r := by rw [if_pos rfl] at H; exact H
                    clear H
                    have H := H1
                    clear H1
                    obtain rfl := Option.some.inj H
                    go_wp2
                    go_ret
                    exact ⟨by first | rfl | (simp [errW_none, errW_some] <;> rfl) | (simp [*, errW_none, errW_some] <;> rfl), by repeat (first | (with_reducible first | exact HB.out | apply below_alloc | apply pw_below_drewN | apply below_drew1 | refine below_set ?_ GE485.out) | exact HB.out)⟩
                   ·replace c72 := Bool.eq_false_iff.mpr c72
                    subst c72
                    have H1 : (if t489 = true then (if a2 < 1 then (some false) else (if a3 < 1 then (some false) else (if ((rd_T28 l0 x10_2).f0) < 0 then (some false) else (if ((rd_T28 l0 x10_2).f1) < 0 then (some false) else (postbaglaw4_SpanEither.l0 kj58 l0 a2 a3 (wrap64 (x10_2 + 1))))))) else (postbaglaw4_SpanEither.l0 kj58 l0 a2 a3 (wrap64 (x10_2 + 1)))) = some r := by rw [if_neg (show ¬ (false = true) by decide)] at H; exact H
                    clear H
                    have H := H1
                    clear H1
                    by_cases c73 : t489 = true
                    ·subst c73
                     have H1 : (if a2 < 1 then (some false) else (if a3 < 1 then (some false) else (if ((rd_T28 l0 x10_2).f0) < 0 then (some false) else (if ((rd_T28 l0 x10_2).f1) < 0 then (some false) else (postbaglaw4_SpanEither.l0 kj58 l0 a2 a3 (wrap64 (x10_2 + 1))))))) = some r := by rw [if_pos rfl] at H; exact H
                     clear H
                     have H := H1
                     clear H1
                     by_cases c74 : a2 < 1
                     ·rw [if_pos c74] at H
                      have c74b0 : decide (a2 < 1) = true := decide_eq_true c74
                      clear c74
                      obtain rfl := Option.some.inj H
                      go_wp2
                      go_ret
                      exact ⟨by first | rfl | (simp [errW_none, errW_some] <;> rfl) | (simp [*, errW_none, errW_some] <;> rfl), by repeat (first | (with_reducible first | exact HB.out | apply below_alloc | apply pw_below_drewN | apply below_drew1 | refine below_set ?_ GE485.out) | exact HB.out)⟩
                     ·rw [if_neg c74] at H
                      have c74b0 : decide (a2 < 1) = false := decide_eq_false c74
                      clear c74
                      by_cases c75 : a3 < 1
                      ·rw [if_pos c75] at H
                       have c75b0 : decide (a3 < 1) = true := decide_eq_true c75
                       clear c75
                       obtain rfl := Option.some.inj H
                       go_wp2
                       go_ret
                       exact ⟨by first | rfl | (simp [errW_none, errW_some] <;> rfl) | (simp [*, errW_none, errW_some] <;> rfl), by repeat (first | (with_reducible first | exact HB.out | apply below_alloc | apply pw_below_drewN | apply below_drew1 | refine below_set ?_ GE485.out) | exact HB.out)⟩
                      ·rw [if_neg c75] at H
                       have c75b0 : decide (a3 < 1) = false := decide_eq_false c75
                       clear c75
                       by_cases c76 : ((rd_T28 l0 x10_2).f0) < 0
                       ·rw [if_pos c76] at H
                        have c76b0 : decide (((rd_T28 l0 x10_2).f0) < 0) = true := decide_eq_true c76
                        clear c76
                        obtain rfl := Option.some.inj H
                        have hcz77_0 : wc.cell? ⟨gb485, 0, none⟩ = some (.int .i64 ((rd_T28 l0 x10_2).f0)) := (blk_cell BK485.out 0).trans rfl
                        have hcz77_1 : wc.cell? ⟨gb485, 1, none⟩ = some (.int .i64 ((rd_T28 l0 x10_2).f1)) := (blk_cell BK485.out 1).trans rfl
                        have hfz77_0 := blk_frozen BK485.out 0
                        have hfz77_1 := blk_frozen BK485.out 1
                        go_wp2
                        go_ret
                        exact ⟨by first | rfl | (simp [errW_none, errW_some] <;> rfl) | (simp [*, errW_none, errW_some] <;> rfl), by repeat (first | (with_reducible first | exact HB.out | apply below_alloc | apply pw_below_drewN | apply below_drew1 | refine below_set ?_ GE485.out) | exact HB.out)⟩
                       ·rw [if_neg c76] at H
                        have c76b0 : decide (((rd_T28 l0 x10_2).f0) < 0) = false := decide_eq_false c76
                        clear c76
                        by_cases c78 : ((rd_T28 l0 x10_2).f1) < 0
                        ·rw [if_pos c78] at H
                         have c78b0 : decide (((rd_T28 l0 x10_2).f1) < 0) = true := decide_eq_true c78
                         clear c78
                         obtain rfl := Option.some.inj H
                         have hcz79_0 : wc.cell? ⟨gb485, 0, none⟩ = some (.int .i64 ((rd_T28 l0 x10_2).f0)) := (blk_cell BK485.out 0).trans rfl
                         have hcz79_1 : wc.cell? ⟨gb485, 1, none⟩ = some (.int .i64 ((rd_T28 l0 x10_2).f1)) := (blk_cell BK485.out 1).trans rfl
                         have hfz79_0 := blk_frozen BK485.out 0
                         have hfz79_1 := blk_frozen BK485.out 1
                         go_wp2
                         go_ret
                         exact ⟨by first | rfl | (simp [errW_none, errW_some] <;> rfl) | (simp [*, errW_none, errW_some] <;> rfl), by repeat (first | (with_reducible first | exact HB.out | apply below_alloc | apply pw_below_drewN | apply below_drew1 | refine below_set ?_ GE485.out) | exact HB.out)⟩
                        ·rw [if_neg c78] at H
                         have c78b0 : decide (((rd_T28 l0 x10_2).f1) < 0) = false := decide_eq_false c78
                         clear c78
                         have H' := Aside0.mk H
                         clear H
                         have hcz80_0 : wc.cell? ⟨gb485, 0, none⟩ = some (.int .i64 ((rd_T28 l0 x10_2).f0)) := (blk_cell BK485.out 0).trans rfl
                         have hcz80_1 : wc.cell? ⟨gb485, 1, none⟩ = some (.int .i64 ((rd_T28 l0 x10_2).f1)) := (blk_cell BK485.out 1).trans rfl
                         have hfz80_0 := blk_frozen BK485.out 0
                         have hfz80_1 := blk_frozen BK485.out 1
                         go_wp2
                         go_roundg kj58
                         case measure => have := HJ7.out; have := HK2.out; have := HJ24.out; have := HJ30.out; have := HJ58.out; omega
                         case rel => exact ⟨(wrap64 (x10_2 + 1)), (by first | rfl | (simp; done) | (simp [*]; done)), H', ⟨by have := HJ7.out; have := HK2.out; have := HJ24.out; have := HJ30.out; have := HJ58.out; omega⟩, ⟨by repeat (first | (with_reducible first | exact HB.out | apply below_alloc | apply pw_below_drewN | apply below_drew1 | refine below_set ?_ GE485.out) | exact HB.out)⟩⟩
                    ·replace c73 := Bool.eq_false_iff.mpr c73
                     subst c73
                     have H1 : (postbaglaw4_SpanEither.l0 kj58 l0 a2 a3 (wrap64 (x10_2 + 1))) = some r := by rw [if_neg (show ¬ (false = true) by decide)] at H; exact H
                     clear H
                     have H := H1
                     clear H1
                     have H' := Aside0.mk H
                     clear H
                     go_wp2
                     go_roundg kj58
                     case measure => have := HJ7.out; have := HK2.out; have := HJ24.out; have := HJ30.out; have := HJ58.out; omega
                     case rel => exact ⟨(wrap64 (x10_2 + 1)), (by first | rfl | (simp; done) | (simp [*]; done)), H', ⟨by have := HJ7.out; have := HK2.out; have := HJ24.out; have := HJ30.out; have := HJ58.out; omega⟩, ⟨by repeat (first | (with_reducible first | exact HB.out | apply below_alloc | apply pw_below_drewN | apply below_drew1 | refine below_set ?_ GE485.out) | exact HB.out)⟩⟩
             ·rw [if_neg c29] at H
              exact absurd H (by simp)
            ·rw [if_neg c28] at H
             exact absurd H (by simp)
           ·replace c27 := Bool.eq_false_iff.mpr c27
            subst c27
            have H1 : ((postbaglaw4_known.f kj24).bind fun t483 => (some t483)) = some r := by rw [if_neg (show ¬ (false = true) by decide)] at H; exact H
            clear H
            have H := H1
            clear H1
            replace H := Option.bind_eq_some_iff.mp H
            obtain ⟨t483, A810, H⟩ := H
            replace H : (some t483) = some r := H
            have A81 := Aside0.mk A810
            clear A810
            obtain rfl := Option.some.inj H
            go_wp2_with (first | ((with_reducible refine gate_callee (f := 20) rfl ?_); refine goesL_ (some 121) rfl rfl Tryd.func20 (by kernel_rfl) rfl #[] rfl (by (try simp only [List.map_toArray, List.map_cons, List.map_nil]); first | done | rfl | (simp only [List.length_drop, List.length_take]; rfl)) ?_; (with_reducible refine (postbaglaw4_known.calls kj24  t483 _ A81.out (by first | exact laid_below HL_.out (by repeat (first | (with_reducible first | exact HB.out | apply below_alloc | apply pw_below_drewN | apply below_drew1) | exact HB.out)) | exact laid_drawn HL_.out (by repeat (first | exact Drawn0.refl _ | apply Drawn0.step)))).mono ?_); rintro e w82 ⟨rfl, hb⟩; refine ⟨_, rfl, ?_⟩; have n0_ := Aside0.mk (below_step (by repeat (first | (with_reducible first | exact HB.out | apply below_alloc | apply pw_below_drewN | apply below_drew1) | exact HB.out)) hb); clear HB; have HB := n0_; clear n0_; (try clear hb); (try clear hb2); (try clear hk); (try clear hi)))
            go_ret
            exact ⟨by first | rfl | (simp [errW_none, errW_some] <;> rfl) | (simp [*, errW_none, errW_some] <;> rfl), by repeat (first | (with_reducible first | exact HB.out | apply below_alloc | apply pw_below_drewN | apply below_drew1) | exact HB.out)⟩
   ·rw [if_neg c7] at H
    exact absurd H (by simp)
  ·rw [if_neg c6] at H
   exact absurd H (by simp)
end Go.Proofs.YtidcchopmbodkaaDoor.Sp
