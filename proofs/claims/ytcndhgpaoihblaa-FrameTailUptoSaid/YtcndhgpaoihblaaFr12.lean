/- Printed by wip/myprint.py of this session over the kit's print.py: contracts of Go functions (each: what a plain Lean function says, the call does). -/
import Derived.Test.YtcndhgpaoihblaaFr0
import Derived.Test.YtcndhgpaoihblaaFrX
import Derived.Test.YtcndhgpaoihblaaFr8
import Derived.Test.YtcndhgpaoihblaaFr9
import Derived.Test.YtcndhgpaoihblaaGivenK
import Derived.Test.YtcndhgpaoihblaaTold
namespace Go.Proofs.Ytcndhgpaoihblaa.Fr
open Go.RowKit Go.Proofs.YtcndhgpaoihblaaW.PrintWords Go.Proofs.YtcndhgpaoihblaaW.PrintLast Go.Proofs.YtcndhgpaoihblaaW.PrintMore
attribute [local go_sem] max2_int min2_int max_two min_two max_three min_three max_four min_four   -- for this text's walks alone
set_option linter.unusedVariables false
set_option linter.unusedSimpArgs false

attribute [local go_sem high] eqA49
/-! ### postbaglaw10_FrameTail: function 8 -/
mutual
def postbaglaw10_FrameTail.j0 : Nat → Int → List ByteArray → ByteArray → ByteArray → List Int → Bool → Option (Bool)
 | 0, _, _, _, _, _, _ => none
 | k + 1, x0, x1, x3, x9, x10, x33 => if x33 = true then ((postbaglaw10_known.f).bind fun t253 => (some t253)) else (if x9.size + x3.size ≤ 9223372036854775807 then ((postbaglaw10_told.f (x9 ++ x3)).bind fun bt254 => ((postbaglaw10_told.f x3).bind fun bt260 => (if (bt254.1.length : Int) < (x10.length : Int) then (postbaglaw10_FrameTail.j1 k x0 x9 bt254.1 bt254.2 bt260.1 bt260.2 (x10.length : Int) true) else (if 0 ≤ (x10.length : Int) then (if (x10.length : Int) ≤ (bt254.1.length : Int) then (if (x10.length : Int) ≤ (bt254.2.length : Int) then ((postbaglaw10_whole.f k (bt254.1.take ((x10.length : Int) : Int).toNat) (bt254.2.take ((x10.length : Int) : Int).toNat) x0 x1 x10 (x10.length : Int)).bind fun t274 => (postbaglaw10_FrameTail.j1 k x0 x9 bt254.1 bt254.2 bt260.1 bt260.2 (x10.length : Int) (!t274))) else (none)) else (none)) else (none))))) else (none))
def postbaglaw10_FrameTail.j1 : Nat → Int → ByteArray → List (S49) → List Int → List (S49) → List Int → Int → Bool → Option (Bool)
 | 0, _, _, _, _, _, _, _, _ => none
 | k + 1, x0, x9, x12, x13, x14, x15, x16, x66 => if x66 = true then (some false) else (if 0 ≤ x16 then (if x16 ≤ (x12.length : Int) then ((some (x12.drop (x16 : Int).toNat : List (S49))).bind fun y275 => (if x16 ≤ (x13.length : Int) then ((some (x13.drop (x16 : Int).toNat : List Int)).bind fun y278 => (if x16 > 0 then (if (x14.length : Int) > 0 then (if 0 < (x14.length : Int) then (postbaglaw10_FrameTail.j2 k x9 y275 y278 x14 x15 (((rd_T49 x14 0).f1) != (wrap64 (x0 + x16)))) else (none)) else (postbaglaw10_FrameTail.j2 k x9 y275 y278 x14 x15 false)) else (postbaglaw10_FrameTail.j2 k x9 y275 y278 x14 x15 false))) else (none))) else (none)) else (none))
def postbaglaw10_FrameTail.j2 : Nat → ByteArray → List (S49) → List Int → List (S49) → List Int → Bool → Option (Bool)
 | 0, _, _, _, _, _, _ => none
 | k + 1, x9, x12, x13, x14, x15, x89 => if x89 = true then (postbaglaw10_FrameTail.j3 k x9 x12 x13 ([] : List (S49)) x15) else (postbaglaw10_FrameTail.j3 k x9 x12 x13 x14 x15)
def postbaglaw10_FrameTail.j3 : Nat → ByteArray → List (S49) → List Int → List (S49) → List Int → Option (Bool)
 | 0, _, _, _, _, _ => none
 | k + 1, x9, x12, x13, x14, x15 => if (x12.length : Int) = (x14.length : Int) then (postbaglaw10_FrameTail.l0 k x9 x12 x13 x14 x15 0) else (some false)
def postbaglaw10_FrameTail.l0 : Nat → ByteArray → List (S49) → List Int → List (S49) → List Int → Int → Option (Bool)
 | 0, _, _, _, _, _, _ => none
 | k + 1, x9, x12, x13, x14, x15, x17 => if x17 < (x12.length : Int) then (if 0 ≤ x17 then (if x17 < (x14.length : Int) then (if (!(((rd_T49 x12 x17).f0) == ((rd_T49 x14 x17).f0)) || (!(((rd_T49 x12 x17).f1) == ((rd_T49 x14 x17).f1)) || (!(((rd_T49 x12 x17).f2) == (wrap64 (((rd_T49 x14 x17).f2) + (x9.size : Int)))) || (!((((rd_T49 x12 x17).f3).toList) == (((rd_T49 x14 x17).f3).toList)))))) = true then (some false) else (if x17 < (x13.length : Int) then (if x17 < (x15.length : Int) then (if (rd x13 x17) = (wrap64 ((rd x15 x17) + (x9.size : Int))) then (postbaglaw10_FrameTail.l0 k x9 x12 x13 x14 x15 (wrap64 (x17 + 1))) else (some false)) else (none)) else (none))) else (none)) else (none)) else ((postbaglaw10_known.f).bind fun t287 => (some t287))
end
def postbaglaw10_FrameTail.f (k : Nat) (a0 : Int) (l1 : List ByteArray) (l2 : List Int) (a3 : ByteArray) : Option (Bool) := (postbaglaw10_row.f k a0 l1 l2).bind fun bt248 => (if bt248.2.2 = true then (postbaglaw10_FrameTail.j0 k a0 l1 a3 bt248.1 bt248.2.1 (decide ((a3.size : Int) > 4195304))) else (postbaglaw10_FrameTail.j0 k a0 l1 a3 bt248.1 bt248.2.1 true))
theorem postbaglaw10_FrameTail.mono_l : ∀ k, (∀ y0 y1 y2 y3 y4 y5, LeO (postbaglaw10_FrameTail.j0 k y0 y1 y2 y3 y4 y5) (postbaglaw10_FrameTail.j0 (k + 1) y0 y1 y2 y3 y4 y5)) ∧ (∀ y0 y1 y2 y3 y4 y5 y6 y7, LeO (postbaglaw10_FrameTail.j1 k y0 y1 y2 y3 y4 y5 y6 y7) (postbaglaw10_FrameTail.j1 (k + 1) y0 y1 y2 y3 y4 y5 y6 y7)) ∧ (∀ y0 y1 y2 y3 y4 y5, LeO (postbaglaw10_FrameTail.j2 k y0 y1 y2 y3 y4 y5) (postbaglaw10_FrameTail.j2 (k + 1) y0 y1 y2 y3 y4 y5)) ∧ (∀ y0 y1 y2 y3 y4, LeO (postbaglaw10_FrameTail.j3 k y0 y1 y2 y3 y4) (postbaglaw10_FrameTail.j3 (k + 1) y0 y1 y2 y3 y4)) ∧ (∀ y0 y1 y2 y3 y4 y5, LeO (postbaglaw10_FrameTail.l0 k y0 y1 y2 y3 y4 y5) (postbaglaw10_FrameTail.l0 (k + 1) y0 y1 y2 y3 y4 y5))
 | 0 => ⟨fun _ _ _ _ _ _ r h => by simp [postbaglaw10_FrameTail.j0] at h, fun _ _ _ _ _ _ _ _ r h => by simp [postbaglaw10_FrameTail.j1] at h, fun _ _ _ _ _ _ r h => by simp [postbaglaw10_FrameTail.j2] at h, fun _ _ _ _ _ r h => by simp [postbaglaw10_FrameTail.j3] at h, fun _ _ _ _ _ _ r h => by simp [postbaglaw10_FrameTail.l0] at h⟩
 | k + 1 => by
  obtain ⟨ih0, ih1, ih2, ih3, ih4⟩ := postbaglaw10_FrameTail.mono_l k
  refine ⟨?_, ?_, ?_, ?_, ?_⟩
  ·intro y0 y1 y2 y3 y4 y5
   unfold postbaglaw10_FrameTail.j0
   repeat' first
   | (with_reducible exact ih0 _ _ _ _ _ _)
   | (with_reducible exact ih1 _ _ _ _ _ _ _ _)
   | (with_reducible exact ih2 _ _ _ _ _ _)
   | (with_reducible exact ih3 _ _ _ _ _)
   | (with_reducible exact ih4 _ _ _ _ _ _)
   | (with_reducible exact postbaglaw10_row.mono _ _ _ _)
   | (with_reducible exact postbaglaw10_whole.mono _ _ _ _ _ _ _)
   | (with_reducible exact LeO.refl _)
   | (with_reducible exact LeO.none _)
   | (with_reducible refine LeO.ite ?_ ?_)
   | (with_reducible refine LeO.bind ?_ (fun _ => ?_))
   | exact ih0 _ _ _ _ _ _
   | exact ih1 _ _ _ _ _ _ _ _
   | exact ih2 _ _ _ _ _ _
   | exact ih3 _ _ _ _ _
   | exact ih4 _ _ _ _ _ _
   | exact postbaglaw10_row.mono _ _ _ _
   | exact postbaglaw10_whole.mono _ _ _ _ _ _ _
   | exact LeO.none _
   | refine LeO.ite ?_ ?_
   | refine LeO.bind ?_ (fun _ => ?_)
  ·intro y0 y1 y2 y3 y4 y5 y6 y7
   unfold postbaglaw10_FrameTail.j1
   repeat' first
   | (with_reducible exact ih0 _ _ _ _ _ _)
   | (with_reducible exact ih1 _ _ _ _ _ _ _ _)
   | (with_reducible exact ih2 _ _ _ _ _ _)
   | (with_reducible exact ih3 _ _ _ _ _)
   | (with_reducible exact ih4 _ _ _ _ _ _)
   | (with_reducible exact postbaglaw10_row.mono _ _ _ _)
   | (with_reducible exact postbaglaw10_whole.mono _ _ _ _ _ _ _)
   | (with_reducible exact LeO.refl _)
   | (with_reducible exact LeO.none _)
   | (with_reducible refine LeO.ite ?_ ?_)
   | (with_reducible refine LeO.bind ?_ (fun _ => ?_))
   | exact ih0 _ _ _ _ _ _
   | exact ih1 _ _ _ _ _ _ _ _
   | exact ih2 _ _ _ _ _ _
   | exact ih3 _ _ _ _ _
   | exact ih4 _ _ _ _ _ _
   | exact postbaglaw10_row.mono _ _ _ _
   | exact postbaglaw10_whole.mono _ _ _ _ _ _ _
   | exact LeO.none _
   | refine LeO.ite ?_ ?_
   | refine LeO.bind ?_ (fun _ => ?_)
  ·intro y0 y1 y2 y3 y4 y5
   unfold postbaglaw10_FrameTail.j2
   repeat' first
   | (with_reducible exact ih0 _ _ _ _ _ _)
   | (with_reducible exact ih1 _ _ _ _ _ _ _ _)
   | (with_reducible exact ih2 _ _ _ _ _ _)
   | (with_reducible exact ih3 _ _ _ _ _)
   | (with_reducible exact ih4 _ _ _ _ _ _)
   | (with_reducible exact postbaglaw10_row.mono _ _ _ _)
   | (with_reducible exact postbaglaw10_whole.mono _ _ _ _ _ _ _)
   | (with_reducible exact LeO.refl _)
   | (with_reducible exact LeO.none _)
   | (with_reducible refine LeO.ite ?_ ?_)
   | (with_reducible refine LeO.bind ?_ (fun _ => ?_))
   | exact ih0 _ _ _ _ _ _
   | exact ih1 _ _ _ _ _ _ _ _
   | exact ih2 _ _ _ _ _ _
   | exact ih3 _ _ _ _ _
   | exact ih4 _ _ _ _ _ _
   | exact postbaglaw10_row.mono _ _ _ _
   | exact postbaglaw10_whole.mono _ _ _ _ _ _ _
   | exact LeO.none _
   | refine LeO.ite ?_ ?_
   | refine LeO.bind ?_ (fun _ => ?_)
  ·intro y0 y1 y2 y3 y4
   unfold postbaglaw10_FrameTail.j3
   repeat' first
   | (with_reducible exact ih0 _ _ _ _ _ _)
   | (with_reducible exact ih1 _ _ _ _ _ _ _ _)
   | (with_reducible exact ih2 _ _ _ _ _ _)
   | (with_reducible exact ih3 _ _ _ _ _)
   | (with_reducible exact ih4 _ _ _ _ _ _)
   | (with_reducible exact postbaglaw10_row.mono _ _ _ _)
   | (with_reducible exact postbaglaw10_whole.mono _ _ _ _ _ _ _)
   | (with_reducible exact LeO.refl _)
   | (with_reducible exact LeO.none _)
   | (with_reducible refine LeO.ite ?_ ?_)
   | (with_reducible refine LeO.bind ?_ (fun _ => ?_))
   | exact ih0 _ _ _ _ _ _
   | exact ih1 _ _ _ _ _ _ _ _
   | exact ih2 _ _ _ _ _ _
   | exact ih3 _ _ _ _ _
   | exact ih4 _ _ _ _ _ _
   | exact postbaglaw10_row.mono _ _ _ _
   | exact postbaglaw10_whole.mono _ _ _ _ _ _ _
   | exact LeO.none _
   | refine LeO.ite ?_ ?_
   | refine LeO.bind ?_ (fun _ => ?_)
  ·intro y0 y1 y2 y3 y4 y5
   unfold postbaglaw10_FrameTail.l0
   repeat' first
   | (with_reducible exact ih0 _ _ _ _ _ _)
   | (with_reducible exact ih1 _ _ _ _ _ _ _ _)
   | (with_reducible exact ih2 _ _ _ _ _ _)
   | (with_reducible exact ih3 _ _ _ _ _)
   | (with_reducible exact ih4 _ _ _ _ _ _)
   | (with_reducible exact postbaglaw10_row.mono _ _ _ _)
   | (with_reducible exact postbaglaw10_whole.mono _ _ _ _ _ _ _)
   | (with_reducible exact LeO.refl _)
   | (with_reducible exact LeO.none _)
   | (with_reducible refine LeO.ite ?_ ?_)
   | (with_reducible refine LeO.bind ?_ (fun _ => ?_))
   | exact ih0 _ _ _ _ _ _
   | exact ih1 _ _ _ _ _ _ _ _
   | exact ih2 _ _ _ _ _ _
   | exact ih3 _ _ _ _ _
   | exact ih4 _ _ _ _ _ _
   | exact postbaglaw10_row.mono _ _ _ _
   | exact postbaglaw10_whole.mono _ _ _ _ _ _ _
   | exact LeO.none _
   | refine LeO.ite ?_ ?_
   | refine LeO.bind ?_ (fun _ => ?_)
theorem postbaglaw10_FrameTail.mono : ∀ a0 a1 a2 a3 k, LeO (postbaglaw10_FrameTail.f k a0 a1 a2 a3) (postbaglaw10_FrameTail.f (k + 1) a0 a1 a2 a3) := by
 intro a0 a1 a2 a3 k
 obtain ⟨ih0, ih1, ih2, ih3, ih4⟩ := postbaglaw10_FrameTail.mono_l k
 unfold postbaglaw10_FrameTail.f
 repeat' first
   | (with_reducible exact ih0 _ _ _ _ _ _)
   | (with_reducible exact ih1 _ _ _ _ _ _ _ _)
   | (with_reducible exact ih2 _ _ _ _ _ _)
   | (with_reducible exact ih3 _ _ _ _ _)
   | (with_reducible exact ih4 _ _ _ _ _ _)
   | (with_reducible exact postbaglaw10_row.mono _ _ _ _)
   | (with_reducible exact postbaglaw10_whole.mono _ _ _ _ _ _ _)
   | (with_reducible exact LeO.refl _)
   | (with_reducible exact LeO.none _)
   | (with_reducible refine LeO.ite ?_ ?_)
   | (with_reducible refine LeO.bind ?_ (fun _ => ?_))
   | exact ih0 _ _ _ _ _ _
   | exact ih1 _ _ _ _ _ _ _ _
   | exact ih2 _ _ _ _ _ _
   | exact ih3 _ _ _ _ _
   | exact ih4 _ _ _ _ _ _
   | exact postbaglaw10_row.mono _ _ _ _
   | exact postbaglaw10_whole.mono _ _ _ _ _ _ _
   | exact LeO.none _
   | refine LeO.ite ?_ ?_
   | refine LeO.bind ?_ (fun _ => ?_)
def postbaglaw10_FrameTail.T7 : Bool × List (List Nat × List Nat) := (true, [([], []), ([0], [0]), ([], []), ([1, 2], [1, 2]), ([3], [3]), ([4], [4]), ([4], [4]), ([5, 6, 4], [4, 5, 6]), ([4], [4]), ([4], [4]), ([8, 9, 4], [4, 8, 9]), ([4], [4]), ([4], [4]), ([4], [4]), ([4], [4]), ([7, 10, 11, 12, 13, 14, 4, 4], [4, 7, 10, 11, 12, 13, 14]), ([15, 4], [4, 15]), ([4, 16], [4, 16])])
def postbaglaw10_FrameTail.B7 : List Nat := [0, 1, 0, 7, 15, 31, 31, 127, 31, 31, 799, 31, 31, 31, 31, 32767, 65535, 131071]
theorem postbaglaw10_FrameTail.tab7 : rtab .any (opsOf Try.f8 7) = postbaglaw10_FrameTail.T7 := by kernel_rfl
theorem postbaglaw10_FrameTail.bits7 : waitsOk postbaglaw10_FrameTail.T7.2 postbaglaw10_FrameTail.B7 = true := by kernel_rfl
def postbaglaw10_FrameTail.T20 : Bool × List (List Nat × List Nat) := (true, [([], []), ([], []), ([0, 1], [0, 1]), ([2], [2]), ([], []), ([3, 4], [3, 4]), ([5], [5]), ([6], [6]), ([6], [6]), ([7, 8, 6], [6, 7, 8]), ([9, 6], [6, 9]), ([6], [6]), ([6], [6]), ([11, 12, 6], [6, 11, 12]), ([13, 6], [6, 13]), ([6], [6]), ([15, 6], [6, 15]), ([14, 16, 6], [6, 14, 16]), ([10, 17, 6], [6, 10, 17]), ([6, 18], [6, 18])])
def postbaglaw10_FrameTail.B20 : List Nat := [0, 0, 3, 7, 0, 31, 63, 127, 127, 511, 1023, 127, 127, 6271, 14463, 127, 32895, 129151, 262143, 524287]
theorem postbaglaw10_FrameTail.tab20 : rtab .any (opsOf Try.f8 20) = postbaglaw10_FrameTail.T20 := by kernel_rfl
theorem postbaglaw10_FrameTail.bits20 : waitsOk postbaglaw10_FrameTail.T20.2 postbaglaw10_FrameTail.B20 = true := by kernel_rfl
set_option maxHeartbeats 8000000 in
set_option maxRecDepth 100000 in
theorem postbaglaw10_FrameTail.calls (k : Nat) (a0 : Int) (A1 : Option Addr) (c1 : Nat) (l1 : List ByteArray) (A2 : Option Addr) (c2 : Nat) (l2 : List Int) (a3 : ByteArray) (r : Bool) (w : World) (hr1 : Kd.C Kd.string w A1 l1.length l1) (hc1 : l1.length ≤ c1) (hr2 : Kd.C (Kd.int .i64) w A2 l2.length l2) (hc2 : l2.length ≤ c2) (h : postbaglaw10_FrameTail.f k a0 l1 l2 a3 = some r) :
  Calls Try.prog 8 #[.int .i64 a0, .slice A1 l1.length c1, .slice A2 l2.length c2, .string a3] w fun e w' => e = .returned (.bool r) ∧ Below w.heap.size w w' := by
 have hu49 := Try.underlying49
 have HR1 := Aside0.mk hr1
 have HC1 := Aside0.mk hc1
 clear hr1 hc1
 have HR2 := Aside0.mk hr2
 have HC2 := Aside0.mk hc2
 clear hr2 hc2
 have HB := Aside0.mk (Below.refl w.heap.size w)
 have H : ((postbaglaw10_row.f k a0 l1 l2).bind fun bt248 => (if bt248.2.2 = true then (postbaglaw10_FrameTail.j0 k a0 l1 a3 bt248.1 bt248.2.1 (decide ((a3.size : Int) > 4195304))) else (postbaglaw10_FrameTail.j0 k a0 l1 a3 bt248.1 bt248.2.1 true))) = some r := h
 clear h
 replace H := Option.bind_eq_some_iff.mp H
 obtain ⟨⟨t248, t249, t250⟩, A50, H⟩ := H
 replace H : (if t250 = true then (postbaglaw10_FrameTail.j0 k a0 l1 a3 t248 t249 (decide ((a3.size : Int) > 4195304))) else (postbaglaw10_FrameTail.j0 k a0 l1 a3 t248 t249 true)) = some r := H
 have A5 := Aside0.mk A50
 clear A50
 have HC6 := Aside0.mk H
 clear H
 go_enter Try.func8, Try.ntmps8
 go_upto_region 2 with (first | ((with_reducible refine gate_callee (f := 25) rfl ?_); refine goesL_ (some 23) rfl rfl Try.func25 (by kernel_rfl) rfl #[.int .i64 a0, .slice A1 l1.length c1, .slice A2 l2.length c2] rfl (by (try simp only [List.map_toArray, List.map_cons, List.map_nil]); first | done | rfl | (simp only [List.length_drop, List.length_take]; rfl)) ?_; (with_reducible refine (postbaglaw10_row.calls k a0 _ _ l1 _ _ l2 t248 t249 t250 _ ?side1 ?side2 ?side3 ?side4 A5.out).mono ?_); (case side1 => repeat (first | exact HR1.out | (with_reducible refine Kd.C_alloc ?_ _) | (with_reducible refine Kd.C_drewN ?_ _) | (with_reducible refine Kd.C_drew ?_))); (case side2 => exact HC1.out); (case side3 => repeat (first | exact HR2.out | (with_reducible refine Kd.C_alloc ?_ _) | (with_reducible refine Kd.C_drewN ?_ _) | (with_reducible refine Kd.C_drew ?_))); (case side4 => exact HC2.out); rintro e w7 ⟨v251, rfl, ho0, hb⟩; refine ⟨_, rfl, ?_⟩; have n0_ := Aside0.mk (Kd.R_lower ho0 (below_size (by repeat (first | (with_reducible first | exact HB.out | apply below_alloc | apply pw_below_drewN | apply below_drew1) | exact HB.out)))); have n1_ := Aside0.mk (below_step (by repeat (first | (with_reducible first | exact HB.out | apply below_alloc | apply pw_below_drewN | apply below_drew1) | exact HB.out)) hb); clear HB; have HO252 := n0_; have HB := n1_; clear n0_ n1_; (try clear hb); (try clear hb2); (try clear hk); (try clear hi); (try clear ho0)))
 (try simp only [Act.put, List.setIfInBounds_toArray, List.set_cons_zero, List.set_cons_succ])
 go_cut [33] (fun v33 wc => ∃ (kq : Nat) (x33_5 : Bool), v33 = .bool x33_5 ∧ Aside0 (postbaglaw10_FrameTail.j0 kq a0 l1 a3 t248 t249 x33_5 = some r) ∧ Aside0 (kq ≤ k) ∧ Aside0 (Kd.R (Kd.int .i64) 3 wc w.heap.size (fun _ => True) v251 t249) ∧ Aside0 (Below w.heap.size w wc))
 case first =>
  have H := HC6.out
  clear HC6
  by_cases c8 : t250 = true
  ·subst c8
   have H1 : (postbaglaw10_FrameTail.j0 k a0 l1 a3 t248 t249 (decide ((a3.size : Int) > 4195304))) = some r := by rw [if_pos rfl] at H; exact H
   clear H
   have H := H1
   clear H1
   have H' := Aside0.mk H
   clear H
   go_wp2
   go_meet
   case rel => exact ⟨_, (decide ((a3.size : Int) > 4195304)), (by first | rfl | (simp; done) | (simp [*]; done)), H', ⟨by first | omega | exact Nat.le_refl _⟩, ⟨by (with_reducible repeat (first | apply Kd.R_alloc | apply Kd.R_drewN | apply Kd.R_drew)); exact HO252.out⟩, ⟨by repeat (first | (with_reducible first | exact HB.out | apply below_alloc | apply pw_below_drewN | apply below_drew1) | exact HB.out)⟩⟩
  ·replace c8 := Bool.eq_false_iff.mpr c8
   subst c8
   have H1 : (postbaglaw10_FrameTail.j0 k a0 l1 a3 t248 t249 true) = some r := by rw [if_neg (show ¬ (false = true) by decide)] at H; exact H
   clear H
   have H := H1
   clear H1
   have H' := Aside0.mk H
   clear H
   go_wp2
   go_meet
   case rel => exact ⟨_, (true), (by first | rfl | (simp; done) | (simp [*]; done)), H', ⟨by first | omega | exact Nat.le_refl _⟩, ⟨by (with_reducible repeat (first | apply Kd.R_alloc | apply Kd.R_drewN | apply Kd.R_drew)); exact HO252.out⟩, ⟨by repeat (first | (with_reducible first | exact HB.out | apply below_alloc | apply pw_below_drewN | apply below_drew1) | exact HB.out)⟩⟩
 case rest =>
  clear HC6
  try clear c1
  try clear c2
  try clear p2
  try clear c8
  obtain ⟨kq, x33_5, rfl, HA, HJ5, HO_10, HB⟩ := hcut
  cases kq with
  | zero => exact absurd HA.out (by simp [postbaglaw10_FrameTail.j0])
  | succ kj5 =>
   have H := HA.out
   clear HA
   simp only [postbaglaw10_FrameTail.j0] at H
   by_cases c9 : x33_5 = true
   ·subst c9
    have H1 : ((postbaglaw10_known.f).bind fun t253 => (some t253)) = some r := by rw [if_pos rfl] at H; exact H
    clear H
    have H := H1
    clear H1
    replace H := Option.bind_eq_some_iff.mp H
    obtain ⟨t253, A100, H⟩ := H
    replace H : (some t253) = some r := H
    have A10 := Aside0.mk A100
    clear A100
    obtain rfl := Option.some.inj H
    go_wp2_with (first | ((with_reducible refine gate_callee (f := 14) rfl ?_); refine goesL_ (some 34) rfl rfl Try.func14 (by kernel_rfl) rfl #[] rfl (by (try simp only [List.map_toArray, List.map_cons, List.map_nil]); first | done | rfl | (simp only [List.length_drop, List.length_take]; rfl)) ?_; (with_reducible refine (postbaglaw10_known.calls  t253 _ A10.out).mono ?_); rintro e w11 ⟨rfl, hb⟩; refine ⟨_, rfl, ?_⟩; have n0_ := Aside0.mk (Kd.R_below (by (with_reducible repeat (first | apply Kd.R_alloc | apply Kd.R_drewN | apply Kd.R_drew)); exact HO_10.out) hb); have n1_ := Aside0.mk (below_step (by repeat (first | (with_reducible first | exact HB.out | apply below_alloc | apply pw_below_drewN | apply below_drew1) | exact HB.out)) hb); clear HO_10; clear HB; have HO_10 := n0_; have HB := n1_; clear n0_ n1_; (try clear hb); (try clear hb2); (try clear hk); (try clear hi)))
    go_ret
    exact ⟨by first | rfl | (simp [errW_none, errW_some] <;> rfl) | (simp [*, errW_none, errW_some] <;> rfl), by repeat (first | (with_reducible first | exact HB.out | apply below_alloc | apply pw_below_drewN | apply below_drew1) | exact HB.out)⟩
   ·replace c9 := Bool.eq_false_iff.mpr c9
    subst c9
    have H1 : (if t248.size + a3.size ≤ 9223372036854775807 then ((postbaglaw10_told.f (t248 ++ a3)).bind fun bt254 => ((postbaglaw10_told.f a3).bind fun bt260 => (if (bt254.1.length : Int) < (t249.length : Int) then (postbaglaw10_FrameTail.j1 kj5 a0 t248 bt254.1 bt254.2 bt260.1 bt260.2 (t249.length : Int) true) else (if 0 ≤ (t249.length : Int) then (if (t249.length : Int) ≤ (bt254.1.length : Int) then (if (t249.length : Int) ≤ (bt254.2.length : Int) then ((postbaglaw10_whole.f kj5 (bt254.1.take ((t249.length : Int) : Int).toNat) (bt254.2.take ((t249.length : Int) : Int).toNat) a0 l1 t249 (t249.length : Int)).bind fun t274 => (postbaglaw10_FrameTail.j1 kj5 a0 t248 bt254.1 bt254.2 bt260.1 bt260.2 (t249.length : Int) (!t274))) else (none)) else (none)) else (none))))) else (none)) = some r := by rw [if_neg (show ¬ (false = true) by decide)] at H; exact H
    clear H
    have H := H1
    clear H1
    by_cases c12 : t248.size + a3.size ≤ 9223372036854775807
    ·rw [if_pos c12] at H
     have c12b0 := eq_true c12
     have c12b1 : decide (t248.size + a3.size ≤ 9223372036854775807) = true := decide_eq_true c12
     try have c12b2 : (9223372036854775807 < t248.size + a3.size) = False := eq_false (Nat.not_lt.2 c12)
     replace H := Option.bind_eq_some_iff.mp H
     obtain ⟨⟨t254, t255⟩, A130, H⟩ := H
     replace H : ((postbaglaw10_told.f a3).bind fun bt260 => (if (t254.length : Int) < (t249.length : Int) then (postbaglaw10_FrameTail.j1 kj5 a0 t248 t254 t255 bt260.1 bt260.2 (t249.length : Int) true) else (if 0 ≤ (t249.length : Int) then (if (t249.length : Int) ≤ (t254.length : Int) then (if (t249.length : Int) ≤ (t255.length : Int) then ((postbaglaw10_whole.f kj5 (t254.take ((t249.length : Int) : Int).toNat) (t255.take ((t249.length : Int) : Int).toNat) a0 l1 t249 (t249.length : Int)).bind fun t274 => (postbaglaw10_FrameTail.j1 kj5 a0 t248 t254 t255 bt260.1 bt260.2 (t249.length : Int) (!t274))) else (none)) else (none)) else (none)))) = some r := H
     have A13 := Aside0.mk A130
     clear A130
     replace H := Option.bind_eq_some_iff.mp H
     obtain ⟨⟨t260, t261⟩, A140, H⟩ := H
     replace H : (if (t254.length : Int) < (t249.length : Int) then (postbaglaw10_FrameTail.j1 kj5 a0 t248 t254 t255 t260 t261 (t249.length : Int) true) else (if 0 ≤ (t249.length : Int) then (if (t249.length : Int) ≤ (t254.length : Int) then (if (t249.length : Int) ≤ (t255.length : Int) then ((postbaglaw10_whole.f kj5 (t254.take ((t249.length : Int) : Int).toNat) (t255.take ((t249.length : Int) : Int).toNat) a0 l1 t249 (t249.length : Int)).bind fun t274 => (postbaglaw10_FrameTail.j1 kj5 a0 t248 t254 t255 t260 t261 (t249.length : Int) (!t274))) else (none)) else (none)) else (none))) = some r := H
     have A14 := Aside0.mk A140
     clear A140
     have HC15 := Aside0.mk H
     clear H
     go_upto_region 7 with (first | ((with_reducible refine gate_callee (f := 26) rfl ?_); refine goesL_ (some 39) rfl rfl Try.func26 (by kernel_rfl) rfl #[.string (t248 ++ a3)] rfl (by (try simp only [List.map_toArray, List.map_cons, List.map_nil]); first | done | rfl | (simp only [List.length_drop, List.length_take]; rfl)) ?_; (with_reducible refine (postbaglaw10_told.calls (t248 ++ a3) t254 t255 _ A13.out).mono ?_); rintro e w16 ⟨v256, v258, rfl, ho0, ho1, hb⟩; refine ⟨_, rfl, ?_⟩; have n0_ := Aside0.mk (Kd.R_elder' (by (with_reducible repeat (first | apply Kd.R_alloc | apply Kd.R_drewN | apply Kd.R_drew)); exact HO_10.out) (Kd.R_base ho1) hb); have n1_ := Aside0.mk (Kd.R_lower ho0 (below_size (by repeat (first | (with_reducible first | exact HB.out | apply below_alloc | apply pw_below_drewN | apply below_drew1) | exact HB.out)))); have n2_ := Aside0.mk (Kd.R_lower (Kd.R_new' ho1 (Kd.R_lt (by (with_reducible repeat (first | apply Kd.R_alloc | apply Kd.R_drewN | apply Kd.R_drew)); exact HO_10.out))) (below_size (by repeat (first | (with_reducible first | exact HB.out | apply below_alloc | apply pw_below_drewN | apply below_drew1) | exact HB.out)))); have n3_ := Aside0.mk (below_step (by repeat (first | (with_reducible first | exact HB.out | apply below_alloc | apply pw_below_drewN | apply below_drew1) | exact HB.out)) hb); clear HO_10; clear HB; have HO_10 := n0_; have HO257 := n1_; have HO259 := n2_; have HB := n3_; clear n0_ n1_ n2_ n3_; (try clear hb); (try clear hb2); (try clear hk); (try clear hi); (try clear ho0); (try clear ho1)) | ((with_reducible refine gate_callee (f := 26) rfl ?_); refine goesL_ (some 44) rfl rfl Try.func26 (by kernel_rfl) rfl #[.string a3] rfl (by (try simp only [List.map_toArray, List.map_cons, List.map_nil]); first | done | rfl | (simp only [List.length_drop, List.length_take]; rfl)) ?_; (with_reducible refine (postbaglaw10_told.calls a3 t260 t261 _ A14.out).mono ?_); rintro e w17 ⟨v262, v264, rfl, ho0, ho1, hb⟩; refine ⟨_, rfl, ?_⟩; have n0_ := Aside0.mk (Kd.R_elder' (by (with_reducible repeat (first | apply Kd.R_alloc | apply Kd.R_drewN | apply Kd.R_drew)); exact HO_10.out) (Kd.R_base ho1) hb); have n1_ := Aside0.mk (Kd.R_elder' (by (with_reducible repeat (first | apply Kd.R_alloc | apply Kd.R_drewN | apply Kd.R_drew)); exact HO257.out) (Kd.R_base ho0) hb); have n2_ := Aside0.mk (Kd.R_elder' (by (with_reducible repeat (first | apply Kd.R_alloc | apply Kd.R_drewN | apply Kd.R_drew)); exact HO259.out) (Kd.R_base ho1) hb); have n3_ := Aside0.mk (Kd.R_lower (Kd.R_new' ho0 (Kd.R_lt (by (with_reducible repeat (first | apply Kd.R_alloc | apply Kd.R_drewN | apply Kd.R_drew)); exact HO257.out))) (below_size (by repeat (first | (with_reducible first | exact HB.out | apply below_alloc | apply pw_below_drewN | apply below_drew1) | exact HB.out)))); have n4_ := Aside0.mk (Kd.R_lower (Kd.R_new' (Kd.R_new' ho1 (Kd.R_lt (by (with_reducible repeat (first | apply Kd.R_alloc | apply Kd.R_drewN | apply Kd.R_drew)); exact HO_10.out))) (Kd.R_lt (by (with_reducible repeat (first | apply Kd.R_alloc | apply Kd.R_drewN | apply Kd.R_drew)); exact HO259.out))) (below_size (by repeat (first | (with_reducible first | exact HB.out | apply below_alloc | apply pw_below_drewN | apply below_drew1) | exact HB.out)))); have n5_ := Aside0.mk (below_step (by repeat (first | (with_reducible first | exact HB.out | apply below_alloc | apply pw_below_drewN | apply below_drew1) | exact HB.out)) hb); clear HO_10; clear HO257; clear HO259; clear HB; have HO_10 := n0_; have HO257 := n1_; have HO259 := n2_; have HO263 := n3_; have HO265 := n4_; have HB := n5_; clear n0_ n1_ n2_ n3_ n4_ n5_; (try clear hb); (try clear hb2); (try clear hk); (try clear hi); (try clear ho0); (try clear ho1); obtain ⟨Ao18, co18, eo18⟩ := Kd.R_slice HO_10.out; subst eo18))
     (try simp only [Act.put, List.setIfInBounds_toArray, List.set_cons_zero, List.set_cons_succ])
     go_cut [66] (fun v66 wc => ∃ (kq : Nat) (x66_14 : Bool), v66 = .bool x66_14 ∧ Aside0 (postbaglaw10_FrameTail.j1 kq a0 t248 t254 t255 t260 t261 (t249.length : Int) x66_14 = some r) ∧ Aside0 (kq ≤ kj5) ∧ Aside0 (Kd.Q k49 49 wc w.heap.size (fun k_ => some k_ ≠ (v262 : Value).ownBlock) v256 t254) ∧ Aside0 (Kd.Q (Kd.int .i64) 3 wc w.heap.size (fun k_ => some k_ ≠ (v264 : Value).ownBlock) v258 t255) ∧ Aside0 (Kd.R k49 49 wc w.heap.size (fun k_ => some k_ ≠ (v256 : Value).ownBlock) v262 t260) ∧ Aside0 (Kd.R (Kd.int .i64) 3 wc w.heap.size (fun k_ => some k_ ≠ (v258 : Value).ownBlock) v264 t261) ∧ Aside0 (Below w.heap.size w wc))
     case first =>
      have H := HC15.out
      clear HC15
      by_cases c19 : (t254.length : Int) < (t249.length : Int)
      ·rw [if_pos c19] at H
       have c19b0 : decide ((t254.length : Int) < (t249.length : Int)) = true := decide_eq_true c19
       have c19b1 : decide (t254.length < t249.length) = true := decide_eq_true (Int.ofNat_lt.mp c19)
       clear c19
       (first | rw [c19b0] | (simp only [i64_w, i32_w]; rw [c19b0]) | skip)
       have H' := Aside0.mk H
       clear H
       try go_wp2
       have n0_ := Aside0.mk (Kd.R_drew HO_10.out)
       have n1_ := Aside0.mk (Kd.R_drew HO257.out)
       have n2_ := Aside0.mk (Kd.R_drew HO259.out)
       have n3_ := Aside0.mk (Kd.R_drew HO263.out)
       have n4_ := Aside0.mk (Kd.R_drew HO265.out)
       have n5_ := Aside0.mk (below_drew1 HB.out)
       clear HO_10
       clear HO257
       clear HO259
       clear HO263
       clear HO265
       clear HB
       have HO_10 := n0_
       have HO257 := n1_
       have HO259 := n2_
       have HO263 := n3_
       have HO265 := n4_
       have HB := n5_
       clear n0_ n1_ n2_ n3_ n4_ n5_
       obtain ⟨Ao21, co21, eo21⟩ := Kd.R_slice HO257.out
       (first | subst eo21 | (injection eo21 with f1_ f2_ f3_; have f4_ := f1_.symm; have f5_ := f3_.symm; clear f1_ f2_ f3_; subst f4_; subst f5_))
       refine start_ (n := 18) (S := fun w' => True) (ds := []) #[false, false, false, false, false, false, false, false, false, false, false, false, false, false, false, false, false, false] (by kernel_rfl) rfl rfl trivial (fun hHeld => ?_); refine with_tabW postbaglaw10_FrameTail.tab7 postbaglaw10_FrameTail.bits7 (fun HT_ HW_ => ?_)
       generalize w17.drew = w20 at HO_10 HO257 HO259 HO263 HO265 HB hHeld ⊢
       refine pure_ (i := 0) (N := some 49) (v := ?_) (a' := ?_) #[true, false, false, false, false, false, false, false, false, false, false, false, false, false, false, false, false, false] rfl rfl (any_of HT_.out (by kernel_rfl)) (fun _ _ _ h => h) (Or.inl ⟨by rfl, ?_⟩) ?_ ?_
       rotate_left
       ·intro w'
        go_simp
        with_reducible rfl
       rotate_left
       ·simp only [Act.put, List.setIfInBounds_toArray, List.set_cons_zero, List.set_cons_succ, i64_w, i32_w]
        rfl
       refine pure_ (i := 1) (N := some 50) (v := ?_) (a' := ?_) #[true, true, false, false, false, false, false, false, false, false, false, false, false, false, false, false, false, false] rfl rfl (any_of HT_.out (by kernel_rfl)) (fun _ _ _ h => h) (Or.inl ⟨by rfl, ?_⟩) ?_ ?_
       rotate_left
       ·intro w'
        go_simp
        with_reducible rfl
       rotate_left
       ·simp only [Act.put, List.setIfInBounds_toArray, List.set_cons_zero, List.set_cons_succ, i64_w, i32_w]
        rfl
       refine pure_ (i := 2) (N := some 51) (v := ?_) (a' := ?_) #[true, true, true, false, false, false, false, false, false, false, false, false, false, false, false, false, false, false] rfl rfl (any_of HT_.out (by kernel_rfl)) (fun _ _ _ h => h) (Or.inl ⟨by rfl, ?_⟩) ?_ ?_
       rotate_left
       ·intro w'
        go_simp
        with_reducible rfl
       rotate_left
       ·simp only [Act.put, List.setIfInBounds_toArray, List.set_cons_zero, List.set_cons_succ, i64_w, i32_w]
        rfl
       refine pure_ (i := 3) (N := some 52) (v := ?_) (a' := ?_) #[true, true, true, true, false, false, false, false, false, false, false, false, false, false, false, false, false, false] rfl rfl (any_of HT_.out (by kernel_rfl)) (fun _ _ _ h => h) (Or.inl ⟨by rfl, ?_⟩) ?_ ?_
       rotate_left
       ·intro w'
        go_simp
        with_reducible rfl
       rotate_left
       ·simp only [Act.put, List.setIfInBounds_toArray, List.set_cons_zero, List.set_cons_succ, i64_w, i32_w]
        rfl
       refine pure_ (i := 4) (N := some 53) (v := ?_) (a' := ?_) #[true, true, true, true, true, false, false, false, false, false, false, false, false, false, false, false, false, false] rfl rfl (any_of HT_.out (by kernel_rfl)) (fun _ _ _ h => h) (Or.inl ⟨by rfl, ?_⟩) ?_ ?_
       rotate_left
       ·intro w'
        go_simp
        with_reducible rfl
       rotate_left
       ·simp only [Act.put, List.setIfInBounds_toArray, List.set_cons_zero, List.set_cons_succ, i64_w, i32_w]
        rfl
       refine pure_ (i := 5) (N := some 54) (v := undef) (a' := ?_) #[true, true, true, true, true, true, false, false, false, false, false, false, false, false, false, false, false, false] rfl rfl (any_of HT_.out (by kernel_rfl)) (fun _ _ _ h => h) (Or.inr ⟨by rfl, rfl⟩) ?_ ?_
       rotate_left
       ·simp only [Act.put, List.setIfInBounds_toArray, List.set_cons_zero, List.set_cons_succ, i64_w, i32_w]
        rfl
       refine pure_ (i := 6) (N := some 55) (v := undef) (a' := ?_) #[true, true, true, true, true, true, true, false, false, false, false, false, false, false, false, false, false, false] rfl rfl (any_of HT_.out (by kernel_rfl)) (fun _ _ _ h => h) (Or.inr ⟨by rfl, rfl⟩) ?_ ?_
       rotate_left
       ·simp only [Act.put, List.setIfInBounds_toArray, List.set_cons_zero, List.set_cons_succ, i64_w, i32_w]
        rfl
       refine pure_ (i := 7) (N := some 56) (v := undef) (a' := ?_) #[true, true, true, true, true, true, true, true, false, false, false, false, false, false, false, false, false, false] rfl rfl (any_of HT_.out (by kernel_rfl)) (fun _ _ _ h => h) (Or.inr ⟨by rfl, rfl⟩) ?_ ?_
       rotate_left
       ·simp only [Act.put, List.setIfInBounds_toArray, List.set_cons_zero, List.set_cons_succ, i64_w, i32_w]
        rfl
       refine pure_ (i := 8) (N := some 57) (v := undef) (a' := ?_) #[true, true, true, true, true, true, true, true, true, false, false, false, false, false, false, false, false, false] rfl rfl (any_of HT_.out (by kernel_rfl)) (fun _ _ _ h => h) (Or.inr ⟨by rfl, rfl⟩) ?_ ?_
       rotate_left
       ·simp only [Act.put, List.setIfInBounds_toArray, List.set_cons_zero, List.set_cons_succ, i64_w, i32_w]
        rfl
       refine pure_ (i := 9) (N := some 58) (v := undef) (a' := ?_) #[true, true, true, true, true, true, true, true, true, true, false, false, false, false, false, false, false, false] rfl rfl (any_of HT_.out (by kernel_rfl)) (fun _ _ _ h => h) (Or.inr ⟨by rfl, rfl⟩) ?_ ?_
       rotate_left
       ·simp only [Act.put, List.setIfInBounds_toArray, List.set_cons_zero, List.set_cons_succ, i64_w, i32_w]
        rfl
       refine pure_ (i := 10) (N := some 59) (v := undef) (a' := ?_) #[true, true, true, true, true, true, true, true, true, true, true, false, false, false, false, false, false, false] rfl rfl (any_of HT_.out (by kernel_rfl)) (fun _ _ _ h => h) (Or.inr ⟨by rfl, rfl⟩) ?_ ?_
       rotate_left
       ·simp only [Act.put, List.setIfInBounds_toArray, List.set_cons_zero, List.set_cons_succ, i64_w, i32_w]
        rfl
       refine pure_ (i := 11) (N := some 60) (v := undef) (a' := ?_) #[true, true, true, true, true, true, true, true, true, true, true, true, false, false, false, false, false, false] rfl rfl (any_of HT_.out (by kernel_rfl)) (fun _ _ _ h => h) (Or.inr ⟨by rfl, rfl⟩) ?_ ?_
       rotate_left
       ·simp only [Act.put, List.setIfInBounds_toArray, List.set_cons_zero, List.set_cons_succ, i64_w, i32_w]
        rfl
       refine pure_ (i := 12) (N := some 61) (v := undef) (a' := ?_) #[true, true, true, true, true, true, true, true, true, true, true, true, true, false, false, false, false, false] rfl rfl (any_of HT_.out (by kernel_rfl)) (fun _ _ _ h => h) (Or.inr ⟨by rfl, rfl⟩) ?_ ?_
       rotate_left
       ·simp only [Act.put, List.setIfInBounds_toArray, List.set_cons_zero, List.set_cons_succ, i64_w, i32_w]
        rfl
       refine pure_ (i := 13) (N := some 62) (v := undef) (a' := ?_) #[true, true, true, true, true, true, true, true, true, true, true, true, true, true, false, false, false, false] rfl rfl (any_of HT_.out (by kernel_rfl)) (fun _ _ _ h => h) (Or.inr ⟨by rfl, rfl⟩) ?_ ?_
       rotate_left
       ·simp only [Act.put, List.setIfInBounds_toArray, List.set_cons_zero, List.set_cons_succ, i64_w, i32_w]
        rfl
       refine pure_ (i := 14) (N := some 63) (v := undef) (a' := ?_) #[true, true, true, true, true, true, true, true, true, true, true, true, true, true, true, false, false, false] rfl rfl (any_of HT_.out (by kernel_rfl)) (fun _ _ _ h => h) (Or.inr ⟨by rfl, rfl⟩) ?_ ?_
       rotate_left
       ·simp only [Act.put, List.setIfInBounds_toArray, List.set_cons_zero, List.set_cons_succ, i64_w, i32_w]
        rfl
       refine pure_ (i := 15) (N := some 64) (v := undef) (a' := ?_) #[true, true, true, true, true, true, true, true, true, true, true, true, true, true, true, true, false, false] rfl rfl (any_of HT_.out (by kernel_rfl)) (fun _ _ _ h => h) (Or.inr ⟨by rfl, rfl⟩) ?_ ?_
       rotate_left
       ·simp only [Act.put, List.setIfInBounds_toArray, List.set_cons_zero, List.set_cons_succ, i64_w, i32_w]
        rfl
       refine pure_ (i := 16) (N := some 65) (v := undef) (a' := ?_) #[true, true, true, true, true, true, true, true, true, true, true, true, true, true, true, true, true, false] rfl rfl (any_of HT_.out (by kernel_rfl)) (fun _ _ _ h => h) (Or.inr ⟨by rfl, rfl⟩) ?_ ?_
       rotate_left
       ·simp only [Act.put, List.setIfInBounds_toArray, List.set_cons_zero, List.set_cons_succ, i64_w, i32_w]
        rfl
       refine pure_ (i := 17) (N := some 66) (v := ?_) (a' := ?_) #[true, true, true, true, true, true, true, true, true, true, true, true, true, true, true, true, true, true] rfl rfl (any_of HT_.out (by kernel_rfl)) (fun _ _ _ h => h) (Or.inl ⟨by rfl, ?_⟩) ?_ ?_
       rotate_left
       ·intro w'
        go_simp
        with_reducible rfl
       rotate_left
       ·simp only [Act.put, List.setIfInBounds_toArray, List.set_cons_zero, List.set_cons_succ, i64_w, i32_w]
        rfl
       refine done_ (done_of HT_.out (by kernel_rfl)) ?_
       try go_wp2
       go_meet
       case rel => exact ⟨_, (true), (by first | rfl | (simp; done) | (simp [*]; done)), H', ⟨by have := HJ5.out; first | omega | exact Nat.le_refl _⟩, ⟨Kd.Q_of_R (by (with_reducible repeat (first | apply Kd.R_alloc | apply Kd.R_drewN | apply Kd.R_drew)); exact Kd.R_mono HO257.out (fun _ hk => hk.2))⟩, ⟨Kd.Q_of_R (by (with_reducible repeat (first | apply Kd.R_alloc | apply Kd.R_drewN | apply Kd.R_drew)); exact Kd.R_mono HO259.out (fun _ hk => hk.2))⟩, ⟨by (with_reducible repeat (first | apply Kd.R_alloc | apply Kd.R_drewN | apply Kd.R_drew)); exact Kd.R_mono HO263.out (fun _ hk => hk.2)⟩, ⟨by (with_reducible repeat (first | apply Kd.R_alloc | apply Kd.R_drewN | apply Kd.R_drew)); exact Kd.R_mono HO265.out (fun _ hk => hk.2)⟩, ⟨by repeat (first | (with_reducible first | exact HB.out | apply below_alloc | apply pw_below_drewN | apply below_drew1) | exact HB.out)⟩⟩
      ·rw [if_neg c19] at H
       have c19b0 : decide ((t254.length : Int) < (t249.length : Int)) = false := decide_eq_false c19
       have c19b1 : decide (t254.length < t249.length) = false := decide_eq_false (fun h => c19 (Int.ofNat_lt.mpr h))
       clear c19
       (first | rw [c19b0] | (simp only [i64_w, i32_w]; rw [c19b0]) | skip)
       by_cases c22 : 0 ≤ (t249.length : Int)
       ·rw [if_pos c22] at H
        have c22b0 := eq_true c22
        have c22b1 : decide (0 ≤ (t249.length : Int)) = true := decide_eq_true c22
        clear c22
        by_cases c23 : (t249.length : Int) ≤ (t254.length : Int)
        ·rw [if_pos c23] at H
         have c23b0 := eq_true c23
         have c23b1 : decide ((t249.length : Int) ≤ (t254.length : Int)) = true := decide_eq_true c23
         clear c23
         obtain ⟨y266, hy266⟩ : ∃ y_ : List (S49), y_ = (t254.take ((t249.length : Int) : Int).toNat) := ⟨_, rfl⟩
         replace H : (if (t249.length : Int) ≤ (t255.length : Int) then ((postbaglaw10_whole.f kj5 y266 (t255.take ((t249.length : Int) : Int).toNat) a0 l1 t249 (t249.length : Int)).bind fun t274 => (postbaglaw10_FrameTail.j1 kj5 a0 t248 t254 t255 t260 t261 (t249.length : Int) (!t274))) else (none)) = some r := by first | (rw [hy266]; with_reducible exact H) | (have H2_ := (Option.bind_some _ _).symm.trans H; rw [hy266]; with_reducible exact H2_) | (have H2_ := (Option.bind_some _ _).symm.trans H; with_reducible exact H2_) | with_reducible exact H | (rw [hy266]; exact H) | exact H
         have Ny266 := Aside0.mk hy266
         clear hy266
         have c24b0 := eq_true (of_decide_eq_true (by first | (with_reducible assumption) | assumption) : 0 ≤ (t249.length : Int))
         by_cases c25 : (t249.length : Int) ≤ (t255.length : Int)
         ·rw [if_pos c25] at H
          have c25b0 := eq_true c25
          have c25b1 : decide ((t249.length : Int) ≤ (t255.length : Int)) = true := decide_eq_true c25
          clear c25
          obtain ⟨y270, hy270⟩ : ∃ y_ : List Int, y_ = (t255.take ((t249.length : Int) : Int).toNat) := ⟨_, rfl⟩
          replace H : ((postbaglaw10_whole.f kj5 y266 y270 a0 l1 t249 (t249.length : Int)).bind fun t274 => (postbaglaw10_FrameTail.j1 kj5 a0 t248 t254 t255 t260 t261 (t249.length : Int) (!t274))) = some r := by first | (rw [hy270]; with_reducible exact H) | (have H2_ := (Option.bind_some _ _).symm.trans H; rw [hy270]; with_reducible exact H2_) | (have H2_ := (Option.bind_some _ _).symm.trans H; with_reducible exact H2_) | with_reducible exact H | (rw [hy270]; exact H) | exact H
          have Ny270 := Aside0.mk hy270
          clear hy270
          replace H := Option.bind_eq_some_iff.mp H
          obtain ⟨t274, A260, H⟩ := H
          replace H : (postbaglaw10_FrameTail.j1 kj5 a0 t248 t254 t255 t260 t261 (t249.length : Int) (!t274)) = some r := H
          have A26 := Aside0.mk A260
          clear A260
          have H' := Aside0.mk H
          clear H
          try go_wp2
          have n0_ := Aside0.mk (Kd.R_drew HO_10.out)
          have n1_ := Aside0.mk (Kd.R_drew HO257.out)
          have n2_ := Aside0.mk (Kd.R_drew HO259.out)
          have n3_ := Aside0.mk (Kd.R_drew HO263.out)
          have n4_ := Aside0.mk (Kd.R_drew HO265.out)
          have n5_ := Aside0.mk (below_drew1 HB.out)
          clear HO_10
          clear HO257
          clear HO259
          clear HO263
          clear HO265
          clear HB
          have HO_10 := n0_
          have HO257 := n1_
          have HO259 := n2_
          have HO263 := n3_
          have HO265 := n4_
          have HB := n5_
          clear n0_ n1_ n2_ n3_ n4_ n5_
          obtain ⟨Ao28, co28, eo28⟩ := Kd.R_slice HO257.out
          (first | subst eo28 | (injection eo28 with f1_ f2_ f3_; have f4_ := f1_.symm; have f5_ := f3_.symm; clear f1_ f2_ f3_; subst f4_; subst f5_))
          have q29 : ((t249.length : Int) : Int) ≤ ((t254.length : Int) : Int) := of_decide_eq_true (by first | (with_reducible assumption) | assumption)
          obtain ⟨i029, hi029, _, hsz29, _⟩ := info_parts info49
          have hroom29 : t254.length ≤ co28 := (Kd.R_reads' HO257.out).2.1
          have hC29 : Kd.C k49 _ Ao28 t254.length t254 := (Kd.R_reads' HO257.out).2.2
          have hcut29 := cut_to (P := Try.prog) 43 49 .i64 Try.underlying43 hi029 Ao28 t254.length co28 (t249.length : Int) (of_decide_eq_true (by first | (with_reducible assumption) | assumption)) q29 hroom29
          have hr29 := Kd.C_take (m := ((t249.length : Int) : Int).toNat) hC29 (by omega)
          have hy29 : y266.length = ((t249.length : Int) : Int).toNat := (by rw [Ny266.out, List.length_take]; omega)
          rw [← Ny266.out] at hr29
          rw [← hy29] at hcut29
          have HR269 := Aside0.mk hr29
          have HC269 := Aside0.mk (show y266.length ≤ co28 from by omega)
          clear hr29 hC29 hroom29 hi029 hsz29
          have KY29 := Aside0.mk hy29
          clear hy29
          have KL29 := Aside0.mk (show ((t249.length : Int) : Int).toNat ≤ t254.length from by omega)
          replace q29 := eq_true q29
          obtain ⟨Ao31, co31, eo31⟩ := Kd.R_slice HO259.out
          (first | subst eo31 | (injection eo31 with f1_ f2_ f3_; have f4_ := f1_.symm; have f5_ := f3_.symm; clear f1_ f2_ f3_; subst f4_; subst f5_))
          have q30 : ((t249.length : Int) : Int) ≤ ((t255.length : Int) : Int) := of_decide_eq_true (by first | (with_reducible assumption) | assumption)
          obtain ⟨i030, hi030, _, hsz30, _⟩ := info_parts info3
          have hroom30 : t255.length ≤ co31 := (Kd.R_reads' HO259.out).2.1
          have hC30 : Kd.C (Kd.int .i64) _ Ao31 t255.length t255 := (Kd.R_reads' HO259.out).2.2
          have hcut30 := cut_to (P := Try.prog) 44 3 .i64 Try.underlying44 hi030 Ao31 t255.length co31 (t249.length : Int) (of_decide_eq_true (by first | (with_reducible assumption) | assumption)) q30 hroom30
          have hr30 := Kd.C_take (m := ((t249.length : Int) : Int).toNat) hC30 (by omega)
          have hy30 : y270.length = ((t249.length : Int) : Int).toNat := (by rw [Ny270.out, List.length_take]; omega)
          rw [← Ny270.out] at hr30
          rw [← hy30] at hcut30
          have HR273 := Aside0.mk hr30
          have HC273 := Aside0.mk (show y270.length ≤ co31 from by omega)
          clear hr30 hC30 hroom30 hi030 hsz30
          have KY30 := Aside0.mk hy30
          clear hy30
          have KL30 := Aside0.mk (show ((t249.length : Int) : Int).toNat ≤ t255.length from by omega)
          replace q30 := eq_true q30
          refine start_ (n := 18) (S := fun w' => True) (ds := []) #[false, false, false, false, false, false, false, false, false, false, false, false, false, false, false, false, false, false] (by kernel_rfl) rfl rfl trivial (fun hHeld => ?_); refine with_tabW postbaglaw10_FrameTail.tab7 postbaglaw10_FrameTail.bits7 (fun HT_ HW_ => ?_)
          generalize w17.drew = w27 at HO_10 HO257 HO259 HO263 HO265 HB HR269 HR273 hHeld ⊢
          refine pure_ (i := 0) (N := some 49) (v := ?_) (a' := ?_) #[true, false, false, false, false, false, false, false, false, false, false, false, false, false, false, false, false, false] rfl rfl (any_of HT_.out (by kernel_rfl)) (fun _ _ _ h => h) (Or.inl ⟨by rfl, ?_⟩) ?_ ?_
          rotate_left
          ·intro w'
           go_simp
           with_reducible rfl
          rotate_left
          ·simp only [Act.put, List.setIfInBounds_toArray, List.set_cons_zero, List.set_cons_succ, i64_w, i32_w]
           rfl
          refine pure_ (i := 1) (N := some 50) (v := ?_) (a' := ?_) #[true, true, false, false, false, false, false, false, false, false, false, false, false, false, false, false, false, false] rfl rfl (any_of HT_.out (by kernel_rfl)) (fun _ _ _ h => h) (Or.inl ⟨by rfl, ?_⟩) ?_ ?_
          rotate_left
          ·intro w'
           go_simp
           with_reducible rfl
          rotate_left
          ·simp only [Act.put, List.setIfInBounds_toArray, List.set_cons_zero, List.set_cons_succ, i64_w, i32_w]
           rfl
          refine pure_ (i := 2) (N := some 51) (v := ?_) (a' := ?_) #[true, true, true, false, false, false, false, false, false, false, false, false, false, false, false, false, false, false] rfl rfl (any_of HT_.out (by kernel_rfl)) (fun _ _ _ h => h) (Or.inl ⟨by rfl, ?_⟩) ?_ ?_
          rotate_left
          ·intro w'
           go_simp
           with_reducible rfl
          rotate_left
          ·simp only [Act.put, List.setIfInBounds_toArray, List.set_cons_zero, List.set_cons_succ, i64_w, i32_w]
           rfl
          refine pure_ (i := 3) (N := some 52) (v := ?_) (a' := ?_) #[true, true, true, true, false, false, false, false, false, false, false, false, false, false, false, false, false, false] rfl rfl (any_of HT_.out (by kernel_rfl)) (fun _ _ _ h => h) (Or.inl ⟨by rfl, ?_⟩) ?_ ?_
          rotate_left
          ·intro w'
           go_simp
           with_reducible rfl
          rotate_left
          ·simp only [Act.put, List.setIfInBounds_toArray, List.set_cons_zero, List.set_cons_succ, i64_w, i32_w]
           rfl
          refine pure_ (i := 4) (N := some 53) (v := ?_) (a' := ?_) #[true, true, true, true, true, false, false, false, false, false, false, false, false, false, false, false, false, false] rfl rfl (any_of HT_.out (by kernel_rfl)) (fun _ _ _ h => h) (Or.inl ⟨by rfl, ?_⟩) ?_ ?_
          rotate_left
          ·intro w'
           go_simp
           with_reducible rfl
          rotate_left
          ·simp only [Act.put, List.setIfInBounds_toArray, List.set_cons_zero, List.set_cons_succ, i64_w, i32_w]
           rfl
          refine pure_ (i := 5) (N := some 54) (v := ?_) (a' := ?_) #[true, true, true, true, true, true, false, false, false, false, false, false, false, false, false, false, false, false] rfl rfl (any_of HT_.out (by kernel_rfl)) (fun _ _ _ h => h) (Or.inl ⟨by rfl, ?_⟩) ?_ ?_
          rotate_left
          ·intro w'
           go_simp
           with_reducible rfl
          rotate_left
          ·simp only [Act.put, List.setIfInBounds_toArray, List.set_cons_zero, List.set_cons_succ, i64_w, i32_w]
           rfl
          refine pure_ (i := 6) (N := some 55) (v := ?_) (a' := ?_) #[true, true, true, true, true, true, true, false, false, false, false, false, false, false, false, false, false, false] rfl rfl (any_of HT_.out (by kernel_rfl)) (fun _ _ _ h => h) (Or.inl ⟨by rfl, ?_⟩) ?_ ?_
          rotate_left
          ·intro w'
           go_simp
           with_reducible rfl
          rotate_left
          ·simp only [Act.put, List.setIfInBounds_toArray, List.set_cons_zero, List.set_cons_succ, i64_w, i32_w]
           rfl
          refine pure_ (i := 7) (N := some 56) (v := ?_) (a' := ?_) #[true, true, true, true, true, true, true, true, false, false, false, false, false, false, false, false, false, false] rfl rfl (any_of HT_.out (by kernel_rfl)) (fun _ _ _ h => h) (Or.inl ⟨by rfl, ?_⟩) ?_ ?_
          rotate_left
          ·intro w'
           go_simp
           with_reducible rfl
          rotate_left
          ·simp only [Act.put, List.setIfInBounds_toArray, List.set_cons_zero, List.set_cons_succ, i64_w, i32_w]
           rfl
          refine pure_ (i := 8) (N := some 57) (v := ?_) (a' := ?_) #[true, true, true, true, true, true, true, true, true, false, false, false, false, false, false, false, false, false] rfl rfl (any_of HT_.out (by kernel_rfl)) (fun _ _ _ h => h) (Or.inl ⟨by rfl, ?_⟩) ?_ ?_
          rotate_left
          ·intro w'
           go_simp
           with_reducible rfl
          rotate_left
          ·simp only [Act.put, List.setIfInBounds_toArray, List.set_cons_zero, List.set_cons_succ, i64_w, i32_w]
           rfl
          refine pure_ (i := 9) (N := some 58) (v := ?_) (a' := ?_) #[true, true, true, true, true, true, true, true, true, true, false, false, false, false, false, false, false, false] rfl rfl (any_of HT_.out (by kernel_rfl)) (fun _ _ _ h => h) (Or.inl ⟨by rfl, ?_⟩) ?_ ?_
          rotate_left
          ·intro w'
           go_simp
           with_reducible rfl
          rotate_left
          ·simp only [Act.put, List.setIfInBounds_toArray, List.set_cons_zero, List.set_cons_succ, i64_w, i32_w]
           rfl
          refine pure_ (i := 10) (N := some 59) (v := ?_) (a' := ?_) #[true, true, true, true, true, true, true, true, true, true, true, false, false, false, false, false, false, false] rfl rfl (any_of HT_.out (by kernel_rfl)) (fun _ _ _ h => h) (Or.inl ⟨by rfl, ?_⟩) ?_ ?_
          rotate_left
          ·intro w'
           go_simp
           with_reducible rfl
          rotate_left
          ·simp only [Act.put, List.setIfInBounds_toArray, List.set_cons_zero, List.set_cons_succ, i64_w, i32_w]
           rfl
          refine pure_ (i := 11) (N := some 60) (v := ?_) (a' := ?_) #[true, true, true, true, true, true, true, true, true, true, true, true, false, false, false, false, false, false] rfl rfl (any_of HT_.out (by kernel_rfl)) (fun _ _ _ h => h) (Or.inl ⟨by rfl, ?_⟩) ?_ ?_
          rotate_left
          ·intro w'
           go_simp
           with_reducible rfl
          rotate_left
          ·simp only [Act.put, List.setIfInBounds_toArray, List.set_cons_zero, List.set_cons_succ, i64_w, i32_w]
           rfl
          refine pure_ (i := 12) (N := some 61) (v := ?_) (a' := ?_) #[true, true, true, true, true, true, true, true, true, true, true, true, true, false, false, false, false, false] rfl rfl (any_of HT_.out (by kernel_rfl)) (fun _ _ _ h => h) (Or.inl ⟨by rfl, ?_⟩) ?_ ?_
          rotate_left
          ·intro w'
           go_simp
           with_reducible rfl
          rotate_left
          ·simp only [Act.put, List.setIfInBounds_toArray, List.set_cons_zero, List.set_cons_succ, i64_w, i32_w]
           rfl
          refine pure_ (i := 13) (N := some 62) (v := ?_) (a' := ?_) #[true, true, true, true, true, true, true, true, true, true, true, true, true, true, false, false, false, false] rfl rfl (any_of HT_.out (by kernel_rfl)) (fun _ _ _ h => h) (Or.inl ⟨by rfl, ?_⟩) ?_ ?_
          rotate_left
          ·intro w'
           go_simp
           with_reducible rfl
          rotate_left
          ·simp only [Act.put, List.setIfInBounds_toArray, List.set_cons_zero, List.set_cons_succ, i64_w, i32_w]
           rfl
          refine pure_ (i := 14) (N := some 63) (v := ?_) (a' := ?_) #[true, true, true, true, true, true, true, true, true, true, true, true, true, true, true, false, false, false] rfl rfl (any_of HT_.out (by kernel_rfl)) (fun _ _ _ h => h) (Or.inl ⟨by rfl, ?_⟩) ?_ ?_
          rotate_left
          ·intro w'
           go_simp
           with_reducible rfl
          rotate_left
          ·simp only [Act.put, List.setIfInBounds_toArray, List.set_cons_zero, List.set_cons_succ, i64_w, i32_w]
           rfl
          refine one_ (i := 15) (N := some 64) #[true, true, true, true, true, true, true, true, true, true, true, true, true, true, true, true, false, false] rfl rfl (one_of HT_.out (by kernel_rfl)) (by decide) (fun K hK => ?_)
          refine goes_ Try.func27 (by kernel_rfl) rfl #[.slice Ao28 y266.length co28, .slice Ao31 y270.length co31, .int .i64 a0, .slice A1 l1.length c1, .slice Ao18 t249.length co18, .int .i64 (t249.length : Int)] (by rfl) rfl rfl (by (try simp only [List.map_toArray, List.map_cons, List.map_nil]); first | done | rfl | (simp only [List.length_drop, List.length_take]; rfl)) ?_
          with_reducible refine (postbaglaw10_whole.calls kj5 _ _ y266 _ _ y270 a0 _ _ l1 _ _ t249 (t249.length : Int) t274 _ ?side1 ?side2 ?side3 ?side4 ?side5 ?side6 ?side7 ?side8 A26.out).mono ?_
          (case side1 => repeat (first | exact (by repeat (first | (with_reducible exact HR269.out) | (with_reducible refine Kd.C_alloc ?_ _) | (with_reducible refine Kd.C_drewN ?_ _) | (with_reducible refine Kd.C_drew ?_) | exact HR269.out)) | (with_reducible refine Kd.C_alloc ?_ _) | (with_reducible refine Kd.C_drewN ?_ _) | (with_reducible refine Kd.C_drew ?_)))
          (case side2 => exact HC269.out)
          (case side3 => repeat (first | exact (by repeat (first | (with_reducible exact HR273.out) | (with_reducible refine Kd.C_alloc ?_ _) | (with_reducible refine Kd.C_drewN ?_ _) | (with_reducible refine Kd.C_drew ?_) | exact HR273.out)) | (with_reducible refine Kd.C_alloc ?_ _) | (with_reducible refine Kd.C_drewN ?_ _) | (with_reducible refine Kd.C_drew ?_)))
          (case side4 => exact HC273.out)
          (case side5 => repeat (first | exact (Kd.C_below HR1.out HB.out) | (with_reducible refine Kd.C_alloc ?_ _) | (with_reducible refine Kd.C_drewN ?_ _) | (with_reducible refine Kd.C_drew ?_)))
          (case side6 => exact HC1.out)
          (case side7 => repeat (first | exact (Kd.R_reads' HO_10.out).2.2 | (with_reducible refine Kd.C_alloc ?_ _) | (with_reducible refine Kd.C_drewN ?_ _) | (with_reducible refine Kd.C_drew ?_)))
          (case side8 => exact (Kd.R_reads' HO_10.out).2.1)
          rintro e w32 ⟨rfl, hb⟩
          refine ⟨_, rfl, ?_⟩
          have n0_ := Aside0.mk (Kd.R_below (by (with_reducible repeat (first | apply Kd.R_alloc | apply Kd.R_drewN | apply Kd.R_drew)); exact HO_10.out) hb)
          have n1_ := Aside0.mk (Kd.R_below (by (with_reducible repeat (first | apply Kd.R_alloc | apply Kd.R_drewN | apply Kd.R_drew)); exact HO257.out) hb)
          have n2_ := Aside0.mk (Kd.R_below (by (with_reducible repeat (first | apply Kd.R_alloc | apply Kd.R_drewN | apply Kd.R_drew)); exact HO259.out) hb)
          have n3_ := Aside0.mk (Kd.R_below (by (with_reducible repeat (first | apply Kd.R_alloc | apply Kd.R_drewN | apply Kd.R_drew)); exact HO263.out) hb)
          have n4_ := Aside0.mk (Kd.R_below (by (with_reducible repeat (first | apply Kd.R_alloc | apply Kd.R_drewN | apply Kd.R_drew)); exact HO265.out) hb)
          have n5_ := Aside0.mk (Kd.C_below (by repeat (first | (with_reducible exact HR269.out) | (with_reducible refine Kd.C_alloc ?_ _) | (with_reducible refine Kd.C_drewN ?_ _) | (with_reducible refine Kd.C_drew ?_) | exact HR269.out)) hb)
          have n6_ := Aside0.mk (Kd.C_below (by repeat (first | (with_reducible exact HR273.out) | (with_reducible refine Kd.C_alloc ?_ _) | (with_reducible refine Kd.C_drewN ?_ _) | (with_reducible refine Kd.C_drew ?_) | exact HR273.out)) hb)
          have n7_ := Aside0.mk (below_step (by repeat (first | (with_reducible first | exact HB.out | apply below_alloc | apply pw_below_drewN | apply below_drew1) | exact HB.out)) hb)
          clear HO_10
          clear HO257
          clear HO259
          clear HO263
          clear HO265
          clear HR269
          clear HR273
          clear HB
          have HO_10 := n0_
          have HO257 := n1_
          have HO259 := n2_
          have HO263 := n3_
          have HO265 := n4_
          have HR269 := n5_
          have HR273 := n6_
          have HB := n7_
          clear n0_ n1_ n2_ n3_ n4_ n5_ n6_ n7_
          (try clear hb)
          (try clear hb2)
          (try clear hk)
          (try clear hi)
          refine hK.out _ _ trivial (fun hHeld => ?_)
          clear hK K
          refine norm_ (a' := ?_) ?_ ?_
          rotate_left
          ·show Act.put _ (some 64) _ = _
           simp only [Act.put, List.setIfInBounds_toArray, List.set_cons_zero, List.set_cons_succ, i64_w, i32_w]
           rfl
          refine pure_ (i := 16) (N := some 65) (v := ?_) (a' := ?_) #[true, true, true, true, true, true, true, true, true, true, true, true, true, true, true, true, true, false] rfl rfl (any_of HT_.out (by kernel_rfl)) (fun _ _ _ h => h) (Or.inl ⟨by rfl, ?_⟩) ?_ ?_
          rotate_left
          ·intro w'
           go_simp
           with_reducible rfl
          rotate_left
          ·simp only [Act.put, List.setIfInBounds_toArray, List.set_cons_zero, List.set_cons_succ, i64_w, i32_w]
           rfl
          refine pure_ (i := 17) (N := some 66) (v := ?_) (a' := ?_) #[true, true, true, true, true, true, true, true, true, true, true, true, true, true, true, true, true, true] rfl rfl (any_of HT_.out (by kernel_rfl)) (fun _ _ _ h => h) (Or.inl ⟨by rfl, ?_⟩) ?_ ?_
          rotate_left
          ·intro w'
           go_simp
           with_reducible rfl
          rotate_left
          ·simp only [Act.put, List.setIfInBounds_toArray, List.set_cons_zero, List.set_cons_succ, i64_w, i32_w]
           rfl
          refine done_ (done_of HT_.out (by kernel_rfl)) ?_
          try go_wp2
          go_meet
          case rel => exact ⟨_, (!t274), (by first | rfl | (simp; done) | (simp [*]; done)), H', ⟨by have := HJ5.out; first | omega | exact Nat.le_refl _⟩, ⟨Kd.Q_of_R (by (with_reducible repeat (first | apply Kd.R_alloc | apply Kd.R_drewN | apply Kd.R_drew)); exact Kd.R_mono HO257.out (fun _ hk => hk.2))⟩, ⟨Kd.Q_of_R (by (with_reducible repeat (first | apply Kd.R_alloc | apply Kd.R_drewN | apply Kd.R_drew)); exact Kd.R_mono HO259.out (fun _ hk => hk.2))⟩, ⟨by (with_reducible repeat (first | apply Kd.R_alloc | apply Kd.R_drewN | apply Kd.R_drew)); exact Kd.R_mono HO263.out (fun _ hk => hk.2)⟩, ⟨by (with_reducible repeat (first | apply Kd.R_alloc | apply Kd.R_drewN | apply Kd.R_drew)); exact Kd.R_mono HO265.out (fun _ hk => hk.2)⟩, ⟨by repeat (first | (with_reducible first | exact HB.out | apply below_alloc | apply pw_below_drewN | apply below_drew1) | exact HB.out)⟩⟩
         ·rw [if_neg c25] at H
          exact absurd H (by simp)
        ·rw [if_neg c23] at H
         exact absurd H (by simp)
       ·rw [if_neg c22] at H
        exact absurd H (by simp)
     case rest =>
      clear HC15
      try clear c1
      try clear c2
      try clear p2
      try clear q2
      try clear q3
      try clear c8
      try clear c9
      try clear c12
      try clear c12b0
      try clear c12b1
      try clear c12b2
      try clear c14
      try clear c19
      try clear c19b0
      try clear c19b1
      try clear c22
      try clear c22b0
      try clear c22b1
      try clear c23
      try clear c23b0
      try clear c23b1
      try clear c24
      try clear c24b0
      try clear c25
      try clear c25b0
      try clear c25b1
      try clear c26
      try clear c27
      try clear q29
      try clear q30
      try clear p2
      try clear q29
      try clear q30
      obtain ⟨kq, x66_14, rfl, HA, HJ14, HO_12, HO_13, HO_14, HO_15, HB⟩ := hcut
      cases kq with
      | zero => exact absurd HA.out (by simp [postbaglaw10_FrameTail.j1])
      | succ kj14 =>
       have H := HA.out
       clear HA
       simp only [postbaglaw10_FrameTail.j1] at H
       by_cases c33 : x66_14 = true
       ·subst c33
        have H1 : (some false) = some r := by rw [if_pos rfl] at H; exact H
        clear H
        have H := H1
        clear H1
        obtain rfl := Option.some.inj H
        go_wp2
        go_ret
        exact ⟨by first | rfl | (simp [errW_none, errW_some] <;> rfl) | (simp [*, errW_none, errW_some] <;> rfl), by repeat (first | (with_reducible first | exact HB.out | apply below_alloc | apply pw_below_drewN | apply below_drew1) | exact HB.out)⟩
       ·replace c33 := Bool.eq_false_iff.mpr c33
        subst c33
        have H1 : (if 0 ≤ (t249.length : Int) then (if (t249.length : Int) ≤ (t254.length : Int) then ((some (t254.drop ((t249.length : Int) : Int).toNat : List (S49))).bind fun y275 => (if (t249.length : Int) ≤ (t255.length : Int) then ((some (t255.drop ((t249.length : Int) : Int).toNat : List Int)).bind fun y278 => (if (t249.length : Int) > 0 then (if (t260.length : Int) > 0 then (if 0 < (t260.length : Int) then (postbaglaw10_FrameTail.j2 kj14 t248 y275 y278 t260 t261 (((rd_T49 t260 0).f1) != (wrap64 (a0 + (t249.length : Int))))) else (none)) else (postbaglaw10_FrameTail.j2 kj14 t248 y275 y278 t260 t261 false)) else (postbaglaw10_FrameTail.j2 kj14 t248 y275 y278 t260 t261 false))) else (none))) else (none)) else (none)) = some r := by rw [if_neg (show ¬ (false = true) by decide)] at H; exact H
        clear H
        have H := H1
        clear H1
        by_cases c34 : 0 ≤ (t249.length : Int)
        ·rw [if_pos c34] at H
         have c34b0 := eq_true c34
         have c34b1 : decide (0 ≤ (t249.length : Int)) = true := decide_eq_true c34
         clear c34
         by_cases c35 : (t249.length : Int) ≤ (t254.length : Int)
         ·rw [if_pos c35] at H
          have c35b0 := eq_true c35
          have c35b1 : decide ((t249.length : Int) ≤ (t254.length : Int)) = true := decide_eq_true c35
          clear c35
          obtain ⟨y275, hy275⟩ : ∃ y_ : List (S49), y_ = (t254.drop ((t249.length : Int) : Int).toNat) := ⟨_, rfl⟩
          replace H : (if (t249.length : Int) ≤ (t255.length : Int) then ((some (t255.drop ((t249.length : Int) : Int).toNat : List Int)).bind fun y278 => (if (t249.length : Int) > 0 then (if (t260.length : Int) > 0 then (if 0 < (t260.length : Int) then (postbaglaw10_FrameTail.j2 kj14 t248 y275 y278 t260 t261 (((rd_T49 t260 0).f1) != (wrap64 (a0 + (t249.length : Int))))) else (none)) else (postbaglaw10_FrameTail.j2 kj14 t248 y275 y278 t260 t261 false)) else (postbaglaw10_FrameTail.j2 kj14 t248 y275 y278 t260 t261 false))) else (none)) = some r := by first | (rw [hy275]; with_reducible exact H) | (have H2_ := (Option.bind_some _ _).symm.trans H; rw [hy275]; with_reducible exact H2_) | (have H2_ := (Option.bind_some _ _).symm.trans H; with_reducible exact H2_) | with_reducible exact H | (rw [hy275]; exact H) | exact H
          have Ny275 := Aside0.mk hy275
          clear hy275
          by_cases c36 : (t249.length : Int) ≤ (t255.length : Int)
          ·rw [if_pos c36] at H
           have c36b0 := eq_true c36
           have c36b1 : decide ((t249.length : Int) ≤ (t255.length : Int)) = true := decide_eq_true c36
           clear c36
           obtain ⟨y278, hy278⟩ : ∃ y_ : List Int, y_ = (t255.drop ((t249.length : Int) : Int).toNat) := ⟨_, rfl⟩
           replace H : (if (t249.length : Int) > 0 then (if (t260.length : Int) > 0 then (if 0 < (t260.length : Int) then (postbaglaw10_FrameTail.j2 kj14 t248 y275 y278 t260 t261 (((rd_T49 t260 0).f1) != (wrap64 (a0 + (t249.length : Int))))) else (none)) else (postbaglaw10_FrameTail.j2 kj14 t248 y275 y278 t260 t261 false)) else (postbaglaw10_FrameTail.j2 kj14 t248 y275 y278 t260 t261 false)) = some r := by first | (rw [hy278]; with_reducible exact H) | (have H2_ := (Option.bind_some _ _).symm.trans H; rw [hy278]; with_reducible exact H2_) | (have H2_ := (Option.bind_some _ _).symm.trans H; with_reducible exact H2_) | with_reducible exact H | (rw [hy278]; exact H) | exact H
           have Ny278 := Aside0.mk hy278
           clear hy278
           have HC37 := Aside0.mk H
           clear H
           obtain ⟨Ao38, co38, eo38, _⟩ := Kd.Q_slice HO_12.out
           subst eo38
           have q39 : ((t249.length : Int) : Int) ≤ ((t254.length : Int) : Int) := of_decide_eq_true (by first | (with_reducible assumption) | assumption)
           obtain ⟨i039, hi039, _, hsz39, _⟩ := info_parts info49
           have hcut39 := cut_from (P := Try.prog) 43 49 .i64 Try.underlying43 hi039 4 hsz39 Ao38 t254.length co38 (t249.length : Int) (of_decide_eq_true (by first | (with_reducible assumption) | assumption)) q39
           have hr39 := Kd.Q_drop (k := ((t249.length : Int) : Int).toNat) HO_12.out (by omega)
           obtain ⟨A39, hA39⟩ : ∃ A1, A1 = (if co38 = ((t249.length : Int) : Int).toNat then Ao38 else (Ao38 : Option Addr).map (·.add (((t249.length : Int) : Int).toNat * 4))) := ⟨_, rfl⟩
           obtain ⟨c39, hc39⟩ : ∃ c1, c1 = co38 - ((t249.length : Int) : Int).toNat := ⟨_, rfl⟩
           have hy39 : y275.length = t254.length - ((t249.length : Int) : Int).toNat := (by rw [Ny275.out, List.length_drop])
           rw [← Ny275.out] at hr39
           rw [← hy39, ← hA39, ← hc39] at hcut39
           replace hr39 : Kd.Q k49 49 wc w.heap.size (fun k_ => some k_ ≠ (v262 : Value).ownBlock) (.slice A39 y275.length c39) y275 := (by rw [hA39, hc39, hy39]; exact hr39)
           have HE39 : Aside0 ((Value.slice A39 y275.length c39).ownBlock = (.slice Ao38 t254.length co38 : Value).ownBlock) := ⟨by rw [hA39]; split <;> (cases (Ao38 : Option Addr) <;> first | rfl | (simp only [Value.ownBlock, Option.map_some, Addr.add]; split <;> rfl))⟩
           clear hy39 hi039 hsz39 HO_12 hA39 hc39
           have HO277 := Aside0.mk hr39
           clear hr39
           replace q39 := eq_true q39
           have n_ := Aside0.mk (Kd.R_mono (ok' := fun k_ => some k_ ≠ (.slice A39 y275.length c39 : Value).ownBlock) HO_14.out (fun k_ hk => (by rw [HE39.out]; exact hk)))
           clear HO_14
           have HO_14 := n_
           clear n_
           obtain ⟨Ao40, co40, eo40, _⟩ := Kd.Q_slice HO_13.out
           subst eo40
           have q41 : ((t249.length : Int) : Int) ≤ ((t255.length : Int) : Int) := of_decide_eq_true (by first | (with_reducible assumption) | assumption)
           obtain ⟨i041, hi041, _, hsz41, _⟩ := info_parts info3
           have hcut41 := cut_from (P := Try.prog) 44 3 .i64 Try.underlying44 hi041 1 hsz41 Ao40 t255.length co40 (t249.length : Int) (of_decide_eq_true (by first | (with_reducible assumption) | assumption)) q41
           have hr41 := Kd.Q_drop (k := ((t249.length : Int) : Int).toNat) HO_13.out (by omega)
           obtain ⟨A41, hA41⟩ : ∃ A1, A1 = (if co40 = ((t249.length : Int) : Int).toNat then Ao40 else (Ao40 : Option Addr).map (·.add (((t249.length : Int) : Int).toNat * 1))) := ⟨_, rfl⟩
           obtain ⟨c41, hc41⟩ : ∃ c1, c1 = co40 - ((t249.length : Int) : Int).toNat := ⟨_, rfl⟩
           have hy41 : y278.length = t255.length - ((t249.length : Int) : Int).toNat := (by rw [Ny278.out, List.length_drop])
           rw [← Ny278.out] at hr41
           rw [← hy41, ← hA41, ← hc41] at hcut41
           replace hr41 : Kd.Q (Kd.int .i64) 3 wc w.heap.size (fun k_ => some k_ ≠ (v264 : Value).ownBlock) (.slice A41 y278.length c41) y278 := (by rw [hA41, hc41, hy41]; exact hr41)
           have HE41 : Aside0 ((Value.slice A41 y278.length c41).ownBlock = (.slice Ao40 t255.length co40 : Value).ownBlock) := ⟨by rw [hA41]; split <;> (cases (Ao40 : Option Addr) <;> first | rfl | (simp only [Value.ownBlock, Option.map_some, Addr.add]; split <;> rfl))⟩
           clear hy41 hi041 hsz41 HO_13 hA41 hc41
           have HO280 := Aside0.mk hr41
           clear hr41
           replace q41 := eq_true q41
           have n_ := Aside0.mk (Kd.R_mono (ok' := fun k_ => some k_ ≠ (.slice A41 y278.length c41 : Value).ownBlock) HO_15.out (fun k_ hk => (by rw [HE41.out]; exact hk)))
           clear HO_15
           have HO_15 := n_
           clear n_
           go_upto_region 11 with (fail)
           go_cut [89] (fun v89 wc => ∃ (kq : Nat) (x89_36 : Bool), v89 = .bool x89_36 ∧ Aside0 (postbaglaw10_FrameTail.j2 kq t248 y275 y278 t260 t261 x89_36 = some r) ∧ Aside0 (kq ≤ kj14) ∧ Aside0 (Kd.Q k49 49 wc w.heap.size (fun k_ => some k_ ≠ (v262 : Value).ownBlock) (.slice A39 y275.length c39) y275) ∧ Aside0 (Kd.Q (Kd.int .i64) 3 wc w.heap.size (fun k_ => some k_ ≠ (v264 : Value).ownBlock) (.slice A41 y278.length c41) y278) ∧ Aside0 (Kd.R k49 49 wc w.heap.size (fun k_ => some k_ ≠ ((.slice A39 y275.length c39) : Value).ownBlock) v262 t260) ∧ Aside0 (Kd.R (Kd.int .i64) 3 wc w.heap.size (fun k_ => some k_ ≠ ((.slice A41 y278.length c41) : Value).ownBlock) v264 t261) ∧ Aside0 (Below w.heap.size w wc))
           case first =>
            have H := HC37.out
            clear HC37
            by_cases c42 : (t249.length : Int) > 0
            ·rw [if_pos c42] at H
             have c42b0 : decide (0 < (t249.length : Int)) = true := decide_eq_true c42
             have c42b1 : decide (0 < t249.length) = true := decide_eq_true (by omega)
             clear c42
             (first | rw [c42b0] | (simp only [i64_w, i32_w]; rw [c42b0]) | skip)
             by_cases c43 : (t260.length : Int) > 0
             ·rw [if_pos c43] at H
              have c43b0 : decide (0 < (t260.length : Int)) = true := decide_eq_true c43
              have c43b1 : decide (0 < t260.length) = true := decide_eq_true (by omega)
              clear c43
              by_cases c44 : 0 < (t260.length : Int)
              ·rw [if_pos c44] at H
               have c44b0 : decide (0 < (t260.length : Int)) = true := decide_eq_true c44
               have c44b1 : decide (0 < t260.length) = true := decide_eq_true (by omega)
               clear c44
               have H' := Aside0.mk H
               clear H
               obtain ⟨Ao45, co45, eo45⟩ := Kd.R_slice HO_14.out
               subst eo45
               have p281 : 0 ≤ (0 : Int) := (by omega)
               have q281 : 0 < (t260.length : Int) := of_decide_eq_true (by first | (with_reducible assumption) | assumption)
               obtain ⟨ad281, e281, hx281_0, hx281_1, hx281_2, hx281_3⟩ := at_T49 (Kd.R_reads' HO_14.out).2.2 0 p281 q281
               cases e281
               have qi281 : (0 < t260.length) = True := eq_true (by omega)
               (try rw [show ((0 : Int)).toNat = 0 from rfl] at hx281_0)
               (try rw [show 0 * 4 = 0 from rfl] at hx281_0)
               (try rw [Addr.add_zero'] at hx281_0)
               (try rw [show ((0 : Int)).toNat = 0 from rfl] at hx281_1)
               (try rw [show 0 * 4 = 0 from rfl] at hx281_1)
               (try rw [Addr.add_zero'] at hx281_1)
               (try rw [show ((0 : Int)).toNat = 0 from rfl] at hx281_2)
               (try rw [show 0 * 4 = 0 from rfl] at hx281_2)
               (try rw [Addr.add_zero'] at hx281_2)
               (try rw [show ((0 : Int)).toNat = 0 from rfl] at hx281_3)
               (try rw [show 0 * 4 = 0 from rfl] at hx281_3)
               (try rw [Addr.add_zero'] at hx281_3)
               replace p281 := eq_true p281
               replace q281 := eq_true q281
               go_wp2
               go_meet
               case rel => exact ⟨_, ((((rd_T49 t260 0).f1) != (wrap64 (a0 + (t249.length : Int))))), (by first | rfl | (simp; done) | (simp [*]; done)), H', ⟨by have := HJ5.out; have := HJ14.out; first | omega | exact Nat.le_refl _⟩, ⟨by (with_reducible repeat (first | apply Kd.Q_alloc | apply Kd.Q_drewN | apply Kd.Q_drew)); exact HO277.out⟩, ⟨by (with_reducible repeat (first | apply Kd.Q_alloc | apply Kd.Q_drewN | apply Kd.Q_drew)); exact HO280.out⟩, ⟨by (with_reducible repeat (first | apply Kd.R_alloc | apply Kd.R_drewN | apply Kd.R_drew)); exact HO_14.out⟩, ⟨by (with_reducible repeat (first | apply Kd.R_alloc | apply Kd.R_drewN | apply Kd.R_drew)); exact HO_15.out⟩, ⟨by repeat (first | (with_reducible first | exact HB.out | apply below_alloc | apply pw_below_drewN | apply below_drew1) | exact HB.out)⟩⟩
              ·rw [if_neg c44] at H
               exact absurd H (by simp)
             ·rw [if_neg c43] at H
              have c43b0 : decide (0 < (t260.length : Int)) = false := decide_eq_false c43
              have c43b1 : decide (0 < t260.length) = false := decide_eq_false (by omega)
              clear c43
              have H' := Aside0.mk H
              clear H
              obtain ⟨Ao46, co46, eo46⟩ := Kd.R_slice HO_14.out
              subst eo46
              go_wp2
              go_meet
              case rel => exact ⟨_, (false), (by first | rfl | (simp; done) | (simp [*]; done)), H', ⟨by have := HJ5.out; have := HJ14.out; first | omega | exact Nat.le_refl _⟩, ⟨by (with_reducible repeat (first | apply Kd.Q_alloc | apply Kd.Q_drewN | apply Kd.Q_drew)); exact HO277.out⟩, ⟨by (with_reducible repeat (first | apply Kd.Q_alloc | apply Kd.Q_drewN | apply Kd.Q_drew)); exact HO280.out⟩, ⟨by (with_reducible repeat (first | apply Kd.R_alloc | apply Kd.R_drewN | apply Kd.R_drew)); exact HO_14.out⟩, ⟨by (with_reducible repeat (first | apply Kd.R_alloc | apply Kd.R_drewN | apply Kd.R_drew)); exact HO_15.out⟩, ⟨by repeat (first | (with_reducible first | exact HB.out | apply below_alloc | apply pw_below_drewN | apply below_drew1) | exact HB.out)⟩⟩
            ·rw [if_neg c42] at H
             have c42b0 : decide (0 < (t249.length : Int)) = false := decide_eq_false c42
             have c42b1 : decide (0 < t249.length) = false := decide_eq_false (by omega)
             clear c42
             (first | rw [c42b0] | (simp only [i64_w, i32_w]; rw [c42b0]) | skip)
             have H' := Aside0.mk H
             clear H
             go_wp2
             go_meet
             case rel => exact ⟨_, (false), (by first | rfl | (simp; done) | (simp [*]; done)), H', ⟨by have := HJ5.out; have := HJ14.out; first | omega | exact Nat.le_refl _⟩, ⟨by (with_reducible repeat (first | apply Kd.Q_alloc | apply Kd.Q_drewN | apply Kd.Q_drew)); exact HO277.out⟩, ⟨by (with_reducible repeat (first | apply Kd.Q_alloc | apply Kd.Q_drewN | apply Kd.Q_drew)); exact HO280.out⟩, ⟨by (with_reducible repeat (first | apply Kd.R_alloc | apply Kd.R_drewN | apply Kd.R_drew)); exact HO_14.out⟩, ⟨by (with_reducible repeat (first | apply Kd.R_alloc | apply Kd.R_drewN | apply Kd.R_drew)); exact HO_15.out⟩, ⟨by repeat (first | (with_reducible first | exact HB.out | apply below_alloc | apply pw_below_drewN | apply below_drew1) | exact HB.out)⟩⟩
           case rest =>
            clear HC37
            try clear c1
            try clear c2
            try clear p2
            try clear q2
            try clear hx2
            try clear qi2
            try clear c3
            try clear q3
            try clear c4
            try clear q4
            try clear p6
            try clear c8
            try clear c9
            try clear c12
            try clear c12b0
            try clear c12b1
            try clear c12b2
            try clear c14
            try clear c19
            try clear c19b0
            try clear c19b1
            try clear c22
            try clear c22b0
            try clear c22b1
            try clear c23
            try clear c23b0
            try clear c23b1
            try clear c24
            try clear c24b0
            try clear c25
            try clear c25b0
            try clear c25b1
            try clear c26
            try clear c27
            try clear p28
            try clear q28
            try clear hx28
            try clear qi28
            try clear q29
            try clear q30
            try clear c33
            try clear c34
            try clear c34b0
            try clear c34b1
            try clear c35
            try clear c35b0
            try clear c35b1
            try clear c36
            try clear c36b0
            try clear c36b1
            try clear c39
            try clear q39
            try clear c41
            try clear q41
            try clear c42
            try clear c42b0
            try clear c42b1
            try clear c43
            try clear c43b0
            try clear c43b1
            try clear c44
            try clear c44b0
            try clear c44b1
            try clear hx281_0
            try clear hx281_1
            try clear hx281_2
            try clear hx281_3
            try clear p2
            try clear p281
            try clear q2
            try clear q281
            try clear q29
            try clear q3
            try clear q30
            try clear q39
            try clear q41
            obtain ⟨kq, x89_36, rfl, HA, HJ36, HO_12, HO_13, HO_14, HO_15, HB⟩ := hcut
            cases kq with
            | zero => exact absurd HA.out (by simp [postbaglaw10_FrameTail.j2])
            | succ kj36 =>
             have H := HA.out
             clear HA
             simp only [postbaglaw10_FrameTail.j2] at H
             have HC47 := Aside0.mk H
             clear H
             go_upto_if 89 with (fail)
             go_cut [14] (fun v14 wc => ∃ (kq : Nat) (x14_46 : List (S49)), Aside0 (postbaglaw10_FrameTail.j3 kq t248 y275 y278 x14_46 t261 = some r) ∧ Aside0 (kq ≤ kj36) ∧ Aside0 (Kd.Q k49 49 wc w.heap.size (fun k_ => some k_ ≠ (v14 : Value).ownBlock) (.slice A39 y275.length c39) y275) ∧ Aside0 (Kd.Q (Kd.int .i64) 3 wc w.heap.size (fun k_ => some k_ ≠ (v264 : Value).ownBlock) (.slice A41 y278.length c41) y278) ∧ Aside0 (Kd.R k49 49 wc w.heap.size (fun k_ => some k_ ≠ ((.slice A39 y275.length c39) : Value).ownBlock) v14 x14_46) ∧ Aside0 (Kd.R (Kd.int .i64) 3 wc w.heap.size (fun k_ => some k_ ≠ ((.slice A41 y278.length c41) : Value).ownBlock) v264 t261) ∧ Aside0 (Below w.heap.size w wc))
             case first =>
              have H := HC47.out
              clear HC47
              by_cases c48 : x89_36 = true
              ·subst c48
               have H1 : (postbaglaw10_FrameTail.j3 kj36 t248 y275 y278 ([] : List (S49)) t261) = some r := by rw [if_pos rfl] at H; exact H
               clear H
               have H := H1
               clear H1
               have H' := Aside0.mk H
               clear H
               go_wp2
               go_meet
               case rel => exact ⟨_, (([] : List (S49))), H', ⟨by have := HJ5.out; have := HJ14.out; have := HJ36.out; first | omega | exact Nat.le_refl _⟩, ⟨by (with_reducible repeat (first | apply Kd.Q_alloc | apply Kd.Q_drewN | apply Kd.Q_drew)); exact Kd.Q_mono HO_12.out (fun _ hk => (by simp [Value.ownBlock]))⟩, ⟨by (with_reducible repeat (first | apply Kd.Q_alloc | apply Kd.Q_drewN | apply Kd.Q_drew)); exact HO_13.out⟩, ⟨by first | exact Kd.R_nil _ _ _ _ _ | exact Kd.N_nil _ _ _ _ _ | exact Kd.V_nil _ _ _ _ _ | exact Kd.Q_nil _ _ _ _ _ | exact Kd.S_nil _ _ _ _ _⟩, ⟨by (with_reducible repeat (first | apply Kd.R_alloc | apply Kd.R_drewN | apply Kd.R_drew)); exact HO_15.out⟩, ⟨by repeat (first | (with_reducible first | exact HB.out | apply below_alloc | apply pw_below_drewN | apply below_drew1) | exact HB.out)⟩⟩
              ·replace c48 := Bool.eq_false_iff.mpr c48
               subst c48
               have H1 : (postbaglaw10_FrameTail.j3 kj36 t248 y275 y278 t260 t261) = some r := by rw [if_neg (show ¬ (false = true) by decide)] at H; exact H
               clear H
               have H := H1
               clear H1
               have H' := Aside0.mk H
               clear H
               go_wp2
               go_meet
               case rel => exact ⟨_, (t260), H', ⟨by have := HJ5.out; have := HJ14.out; have := HJ36.out; first | omega | exact Nat.le_refl _⟩, ⟨by (with_reducible repeat (first | apply Kd.Q_alloc | apply Kd.Q_drewN | apply Kd.Q_drew)); exact HO_12.out⟩, ⟨by (with_reducible repeat (first | apply Kd.Q_alloc | apply Kd.Q_drewN | apply Kd.Q_drew)); exact HO_13.out⟩, ⟨by (with_reducible repeat (first | apply Kd.R_alloc | apply Kd.R_drewN | apply Kd.R_drew)); exact HO_14.out⟩, ⟨by (with_reducible repeat (first | apply Kd.R_alloc | apply Kd.R_drewN | apply Kd.R_drew)); exact HO_15.out⟩, ⟨by repeat (first | (with_reducible first | exact HB.out | apply below_alloc | apply pw_below_drewN | apply below_drew1) | exact HB.out)⟩⟩
             case rest =>
              clear HC47
              try clear c1
              try clear c2
              try clear p2
              try clear q2
              try clear hx2
              try clear qi2
              try clear c3
              try clear q3
              try clear c4
              try clear q4
              try clear p6
              try clear c8
              try clear c9
              try clear c12
              try clear c12b0
              try clear c12b1
              try clear c12b2
              try clear c14
              try clear c19
              try clear c19b0
              try clear c19b1
              try clear c22
              try clear c22b0
              try clear c22b1
              try clear c23
              try clear c23b0
              try clear c23b1
              try clear c24
              try clear c24b0
              try clear c25
              try clear c25b0
              try clear c25b1
              try clear c26
              try clear c27
              try clear p28
              try clear q28
              try clear hx28
              try clear qi28
              try clear q29
              try clear q30
              try clear c33
              try clear c34
              try clear c34b0
              try clear c34b1
              try clear c35
              try clear c35b0
              try clear c35b1
              try clear c36
              try clear c36b0
              try clear c36b1
              try clear c39
              try clear q39
              try clear c41
              try clear q41
              try clear c42
              try clear c42b0
              try clear c42b1
              try clear c43
              try clear c43b0
              try clear c43b1
              try clear c44
              try clear c44b0
              try clear c44b1
              try clear c48
              try clear hx281_0
              try clear hx281_1
              try clear hx281_2
              try clear hx281_3
              try clear p2
              try clear p28
              try clear p281
              try clear p6
              try clear q2
              try clear q28
              try clear q281
              try clear q29
              try clear q3
              try clear q30
              try clear q39
              try clear q4
              try clear q41
              obtain ⟨kq, x14_46, HA, HJ46, HO_12, HO_13, HO_14, HO_15, HB⟩ := hcut
              cases kq with
              | zero => exact absurd HA.out (by simp [postbaglaw10_FrameTail.j3])
              | succ kj46 =>
               have H := HA.out
               clear HA
               simp only [postbaglaw10_FrameTail.j3] at H
               by_cases c49 : (y275.length : Int) = (x14_46.length : Int)
               ·rw [if_pos c49] at H
                have c49b0 : ((y275.length : Int) == (x14_46.length : Int)) = true := beq_iff_eq.mpr c49
                have c49b1 : ((y275.length : Int) != (x14_46.length : Int)) = false := bne_eq_false_iff_eq.mpr c49
                have c49b2 : (y275.length == x14_46.length) = true := by first | simpa using c49 | (simp at c49 ⊢; omega)
                clear c49
                have H' := Aside0.mk H
                clear H
                obtain ⟨Ao50, co50, eo50⟩ := Kd.R_slice HO_14.out
                subst eo50
                go_wp2
                go_loopg [17] kj46 (fun kq v17 w' => ∃ (x17_5 : Int), v17 = .int .i64 x17_5 ∧ Aside0 (postbaglaw10_FrameTail.l0 kq t248 y275 y278 x14_46 t261 x17_5 = some r) ∧ Aside0 (kq ≤ kj46) ∧ Aside0 (Kd.Q k49 49 w' w.heap.size (fun k_ => some k_ ≠ ((.slice Ao50 x14_46.length co50) : Value).ownBlock) (.slice A39 y275.length c39) y275) ∧ Aside0 (Kd.Q (Kd.int .i64) 3 w' w.heap.size (fun k_ => some k_ ≠ (v264 : Value).ownBlock) (.slice A41 y278.length c41) y278) ∧ Aside0 (Kd.R k49 49 w' w.heap.size (fun k_ => some k_ ≠ ((.slice A39 y275.length c39) : Value).ownBlock) (.slice Ao50 x14_46.length co50) x14_46) ∧ Aside0 (Kd.R (Kd.int .i64) 3 w' w.heap.size (fun k_ => some k_ ≠ ((.slice A41 y278.length c41) : Value).ownBlock) v264 t261) ∧ Aside0 (Below w.heap.size w w'))
                case atStart => exact ⟨(0), (by first | rfl | (simp; done) | (simp [*]; done)), H', ⟨Nat.le_refl _⟩, ⟨by (with_reducible repeat (first | apply Kd.Q_alloc | apply Kd.Q_drewN | apply Kd.Q_drew)); exact HO_12.out⟩, ⟨by (with_reducible repeat (first | apply Kd.Q_alloc | apply Kd.Q_drewN | apply Kd.Q_drew)); exact HO_13.out⟩, ⟨by (with_reducible repeat (first | apply Kd.R_alloc | apply Kd.R_drewN | apply Kd.R_drew)); exact HO_14.out⟩, ⟨by (with_reducible repeat (first | apply Kd.R_alloc | apply Kd.R_drewN | apply Kd.R_drew)); exact HO_15.out⟩, ⟨by repeat (first | (with_reducible first | exact HB.out | apply below_alloc | apply pw_below_drewN | apply below_drew1) | exact HB.out)⟩⟩
                case round =>
                 clear H'
                 try clear c1
                 try clear c2
                 try clear p2
                 try clear q2
                 try clear hx2
                 try clear qi2
                 try clear c3
                 try clear q3
                 try clear c4
                 try clear q4
                 try clear p6
                 try clear c8
                 try clear c9
                 try clear c12
                 try clear c12b0
                 try clear c12b1
                 try clear c12b2
                 try clear c14
                 try clear c19
                 try clear c19b0
                 try clear c19b1
                 try clear c22
                 try clear c22b0
                 try clear c22b1
                 try clear c23
                 try clear c23b0
                 try clear c23b1
                 try clear c24
                 try clear c24b0
                 try clear c25
                 try clear c25b0
                 try clear c25b1
                 try clear c26
                 try clear c27
                 try clear p28
                 try clear q28
                 try clear hx28
                 try clear qi28
                 try clear q29
                 try clear q30
                 try clear c33
                 try clear c34
                 try clear c34b0
                 try clear c34b1
                 try clear c35
                 try clear c35b0
                 try clear c35b1
                 try clear c36
                 try clear c36b0
                 try clear c36b1
                 try clear c39
                 try clear q39
                 try clear c41
                 try clear q41
                 try clear c42
                 try clear c42b0
                 try clear c42b1
                 try clear c43
                 try clear c43b0
                 try clear c43b1
                 try clear c44
                 try clear c44b0
                 try clear c44b1
                 try clear c48
                 try clear c49
                 try clear c49b0
                 try clear c49b1
                 try clear c49b2
                 try clear hx281_0
                 try clear hx281_1
                 try clear hx281_2
                 try clear hx281_3
                 try clear p2
                 try clear p28
                 try clear p281
                 try clear p6
                 try clear q2
                 try clear q28
                 try clear q281
                 try clear q29
                 try clear q3
                 try clear q30
                 try clear q39
                 try clear q4
                 try clear q41
                 obtain ⟨x17_5, rfl, HA, HK5, HO_12, HO_13, HO_14, HO_15, HB⟩ := hrel
                 cases gk with
                 | zero => exact absurd HA.out (by simp [postbaglaw10_FrameTail.l0])
                 | succ k5 =>
                  have H := HA.out
                  clear HA
                  simp only [postbaglaw10_FrameTail.l0] at H
                  by_cases c51 : x17_5 < (y275.length : Int)
                  ·rw [if_pos c51] at H
                   have c51b0 : decide (x17_5 < (y275.length : Int)) = true := decide_eq_true c51
                   clear c51
                   by_cases c52 : 0 ≤ x17_5
                   ·rw [if_pos c52] at H
                    have c52b0 : decide (0 ≤ x17_5) = true := decide_eq_true c52
                    clear c52
                    by_cases c53 : x17_5 < (x14_46.length : Int)
                    ·rw [if_pos c53] at H
                     have c53b0 : decide (x17_5 < (x14_46.length : Int)) = true := decide_eq_true c53
                     clear c53
                     by_cases c54 : (!(((rd_T49 y275 x17_5).f0) == ((rd_T49 x14_46 x17_5).f0)) || (!(((rd_T49 y275 x17_5).f1) == ((rd_T49 x14_46 x17_5).f1)) || (!(((rd_T49 y275 x17_5).f2) == (wrap64 (((rd_T49 x14_46 x17_5).f2) + (t248.size : Int)))) || (!((((rd_T49 y275 x17_5).f3).toList) == (((rd_T49 x14_46 x17_5).f3).toList)))))) = true
                     ·rw [if_pos c54] at H
                      have c54b0 : (!(((rd_T49 y275 x17_5).f0) == ((rd_T49 x14_46 x17_5).f0)) || (!(((rd_T49 y275 x17_5).f1) == ((rd_T49 x14_46 x17_5).f1)) || (!(((rd_T49 y275 x17_5).f2) == (wrap64 (((rd_T49 x14_46 x17_5).f2) + (t248.size : Int)))) || (!((((rd_T49 y275 x17_5).f3).toList) == (((rd_T49 x14_46 x17_5).f3).toList)))))) = true := c54
                      clear c54
                      obtain rfl := Option.some.inj H
                      have p282 : 0 ≤ (x17_5 : Int) := of_decide_eq_true (by first | (with_reducible assumption) | assumption)
                      have q282 : x17_5 < (x14_46.length : Int) := of_decide_eq_true (by first | (with_reducible assumption) | assumption)
                      obtain ⟨ad282, e282, hx282_0, hx282_1, hx282_2, hx282_3⟩ := at_T49 (Kd.R_reads' HO_14.out).2.2 x17_5 p282 q282
                      cases e282
                      replace p282 := eq_true p282
                      replace q282 := eq_true q282
                      try go_wp2_with (first | ((with_reducible refine gate_dst (N := 18) rfl ?_); (try (refine gate_guard (by rfl) ?_; dsimp only)); refine box_event ?hg (N := 18) ?hd (cs := #[.int .i64 0, .int .i64 0, .int .i64 0, .string (⟨#[]⟩ : ByteArray)]) (t := 49) ?hr ?_; (case hd => rfl); (case hg => rfl); (case hr => first | (go_simp; done) | (go_simp; rfl)); intro gb283 hg w55 hbox hb; have n0_ := Aside0.mk (Kd.Q_below (Kd.Q_elderB (by (with_reducible repeat (first | apply Kd.Q_alloc | apply Kd.Q_drewN | apply Kd.Q_drew)); exact HO_12.out) gb283 (Nat.le_of_eq hg.symm)) hb); have n1_ := Aside0.mk (Kd.Q_below (by (with_reducible repeat (first | apply Kd.Q_alloc | apply Kd.Q_drewN | apply Kd.Q_drew)); exact HO_13.out) hb); have n2_ := Aside0.mk (Kd.R_below (Kd.R_elderB (by (with_reducible repeat (first | apply Kd.R_alloc | apply Kd.R_drewN | apply Kd.R_drew)); exact HO_14.out) gb283 (Nat.le_of_eq hg.symm)) hb); have n3_ := Aside0.mk (Kd.R_below (by (with_reducible repeat (first | apply Kd.R_alloc | apply Kd.R_drewN | apply Kd.R_drew)); exact HO_15.out) hb); have n4_ := Aside0.mk (below_step (by repeat (first | (with_reducible first | exact HB.out | apply below_alloc | apply pw_below_drewN | apply below_drew1) | exact HB.out)) hb); have n5_ := Aside0.mk (hbox); have n6_ := Aside0.mk ((by rw [hg]; exact (below_size (by repeat (first | (with_reducible first | exact HB.out | apply below_alloc | apply pw_below_drewN | apply below_drew1) | exact HB.out))) : w.heap.size ≤ gb283)); have n7_ := Aside0.mk ((by rw [hg]; exact (below_size (by repeat (first | (with_reducible first | exact HB.out | apply below_alloc | apply pw_below_drewN | apply below_drew1) | exact HB.out))) : w.heap.size ≤ gb283)); clear HO_12; clear HO_13; clear HO_14; clear HO_15; clear HB; have HO_12 := n0_; have HO_13 := n1_; have HO_14 := n2_; have HO_15 := n3_; have HB := n4_; have BK283 := n5_; have GW283 := n6_; have GE283 := n7_; clear n0_ n1_ n2_ n3_ n4_ n5_ n6_ n7_; clear hb hbox hg; have hcz56_0 : w55.cell? ⟨gb283, 0, none⟩ = some (.int .i64 0) := (blk_cell BK283.out 0).trans rfl; have hcz56_1 : w55.cell? ⟨gb283, 1, none⟩ = some (.int .i64 0) := (blk_cell BK283.out 1).trans rfl; have hcz56_2 : w55.cell? ⟨gb283, 2, none⟩ = some (.int .i64 0) := (blk_cell BK283.out 2).trans rfl; have hcz56_3 : w55.cell? ⟨gb283, 3, none⟩ = some (.string (⟨#[]⟩ : ByteArray)) := (blk_cell BK283.out 3).trans rfl; have hfz56_0 := blk_frozen BK283.out 0; have hfz56_1 := blk_frozen BK283.out 1; have hfz56_2 := blk_frozen BK283.out 2; have hfz56_3 := blk_frozen BK283.out 3))
                      have n0_ : Aside0 (Kd.Q k49 49 (((((w55.setCell ⟨gb283, 0, none⟩ (.int .i64 ((rd_T49 x14_46 x17_5).f0))).setCell ⟨gb283, 1, none⟩ (.int .i64 ((rd_T49 x14_46 x17_5).f1))).setCell ⟨gb283, 2, none⟩ (.int .i64 ((rd_T49 x14_46 x17_5).f2))).setCell ⟨gb283, 3, none⟩ (.string ((rd_T49 x14_46 x17_5).f3))).setCell ⟨gb283, 2, none⟩ (.int .i64 (wrap64 (((rd_T49 x14_46 x17_5).f2) + (t248.size : Int))))) w.heap.size (fun k_ => some k_ ≠ (.slice (some ad282) x14_46.length co50 : Value).ownBlock ∧ k_ ≠ gb283) (.slice A39 y275.length c39) y275) := ⟨by (with_reducible repeat (first | apply Kd.Q_alloc | apply Kd.Q_drewN | apply Kd.Q_drew)); exact Kd.Q_mono (Kd.Q_far (p := ⟨gb283, 2, none⟩) (Kd.Q_far (p := ⟨gb283, 3, none⟩) (Kd.Q_far (p := ⟨gb283, 2, none⟩) (Kd.Q_far (p := ⟨gb283, 1, none⟩) (Kd.Q_far (p := ⟨gb283, 0, none⟩) (Kd.Q_mono HO_12.out (fun k_ hk => (⟨hk, hk.2⟩ : _ ∧ k_ ≠ gb283))) (fun _ hk => hk.2) (.int .i64 ((rd_T49 x14_46 x17_5).f0))) (fun _ hk => hk.2) (.int .i64 ((rd_T49 x14_46 x17_5).f1))) (fun _ hk => hk.2) (.int .i64 ((rd_T49 x14_46 x17_5).f2))) (fun _ hk => hk.2) (.string ((rd_T49 x14_46 x17_5).f3))) (fun _ hk => hk.2) (.int .i64 (wrap64 (((rd_T49 x14_46 x17_5).f2) + (t248.size : Int))))) (fun _ hk => ⟨hk.1.1, hk.1.2⟩)⟩
                      have n1_ : Aside0 (Kd.Q (Kd.int .i64) 3 (((((w55.setCell ⟨gb283, 0, none⟩ (.int .i64 ((rd_T49 x14_46 x17_5).f0))).setCell ⟨gb283, 1, none⟩ (.int .i64 ((rd_T49 x14_46 x17_5).f1))).setCell ⟨gb283, 2, none⟩ (.int .i64 ((rd_T49 x14_46 x17_5).f2))).setCell ⟨gb283, 3, none⟩ (.string ((rd_T49 x14_46 x17_5).f3))).setCell ⟨gb283, 2, none⟩ (.int .i64 (wrap64 (((rd_T49 x14_46 x17_5).f2) + (t248.size : Int))))) w.heap.size (fun k_ => some k_ ≠ (v264 : Value).ownBlock) (.slice A41 y278.length c41) y278) := ⟨by (with_reducible repeat (first | apply Kd.Q_alloc | apply Kd.Q_drewN | apply Kd.Q_drew)); exact Kd.Q_mono (Kd.Q_far (p := ⟨gb283, 2, none⟩) (Kd.Q_far (p := ⟨gb283, 3, none⟩) (Kd.Q_far (p := ⟨gb283, 2, none⟩) (Kd.Q_far (p := ⟨gb283, 1, none⟩) (Kd.Q_far (p := ⟨gb283, 0, none⟩) (Kd.Q_types HO_13.out BK283.out (by decide)) (fun _ hk => hk.2) (.int .i64 ((rd_T49 x14_46 x17_5).f0))) (fun _ hk => hk.2) (.int .i64 ((rd_T49 x14_46 x17_5).f1))) (fun _ hk => hk.2) (.int .i64 ((rd_T49 x14_46 x17_5).f2))) (fun _ hk => hk.2) (.string ((rd_T49 x14_46 x17_5).f3))) (fun _ hk => hk.2) (.int .i64 (wrap64 (((rd_T49 x14_46 x17_5).f2) + (t248.size : Int))))) (fun _ hk => hk.1)⟩
                      have n2_ : Aside0 (Kd.R k49 49 (((((w55.setCell ⟨gb283, 0, none⟩ (.int .i64 ((rd_T49 x14_46 x17_5).f0))).setCell ⟨gb283, 1, none⟩ (.int .i64 ((rd_T49 x14_46 x17_5).f1))).setCell ⟨gb283, 2, none⟩ (.int .i64 ((rd_T49 x14_46 x17_5).f2))).setCell ⟨gb283, 3, none⟩ (.string ((rd_T49 x14_46 x17_5).f3))).setCell ⟨gb283, 2, none⟩ (.int .i64 (wrap64 (((rd_T49 x14_46 x17_5).f2) + (t248.size : Int))))) w.heap.size (fun k_ => some k_ ≠ (.slice A39 y275.length c39 : Value).ownBlock ∧ k_ ≠ gb283) (.slice (some ad282) x14_46.length co50) x14_46) := ⟨by (with_reducible repeat (first | apply Kd.R_alloc | apply Kd.R_drewN | apply Kd.R_drew)); exact Kd.R_mono (Kd.R_far (p := ⟨gb283, 2, none⟩) (Kd.R_far (p := ⟨gb283, 3, none⟩) (Kd.R_far (p := ⟨gb283, 2, none⟩) (Kd.R_far (p := ⟨gb283, 1, none⟩) (Kd.R_far (p := ⟨gb283, 0, none⟩) (Kd.R_mono HO_14.out (fun k_ hk => (⟨hk, hk.2⟩ : _ ∧ k_ ≠ gb283))) (fun _ hk => hk.2) (.int .i64 ((rd_T49 x14_46 x17_5).f0))) (fun _ hk => hk.2) (.int .i64 ((rd_T49 x14_46 x17_5).f1))) (fun _ hk => hk.2) (.int .i64 ((rd_T49 x14_46 x17_5).f2))) (fun _ hk => hk.2) (.string ((rd_T49 x14_46 x17_5).f3))) (fun _ hk => hk.2) (.int .i64 (wrap64 (((rd_T49 x14_46 x17_5).f2) + (t248.size : Int))))) (fun _ hk => ⟨hk.1.1, hk.1.2⟩)⟩
                      have n3_ : Aside0 (Kd.R (Kd.int .i64) 3 (((((w55.setCell ⟨gb283, 0, none⟩ (.int .i64 ((rd_T49 x14_46 x17_5).f0))).setCell ⟨gb283, 1, none⟩ (.int .i64 ((rd_T49 x14_46 x17_5).f1))).setCell ⟨gb283, 2, none⟩ (.int .i64 ((rd_T49 x14_46 x17_5).f2))).setCell ⟨gb283, 3, none⟩ (.string ((rd_T49 x14_46 x17_5).f3))).setCell ⟨gb283, 2, none⟩ (.int .i64 (wrap64 (((rd_T49 x14_46 x17_5).f2) + (t248.size : Int))))) w.heap.size (fun k_ => some k_ ≠ (.slice A41 y278.length c41 : Value).ownBlock) v264 t261) := ⟨by (with_reducible repeat (first | apply Kd.R_alloc | apply Kd.R_drewN | apply Kd.R_drew)); exact Kd.R_mono (Kd.R_far (p := ⟨gb283, 2, none⟩) (Kd.R_far (p := ⟨gb283, 3, none⟩) (Kd.R_far (p := ⟨gb283, 2, none⟩) (Kd.R_far (p := ⟨gb283, 1, none⟩) (Kd.R_far (p := ⟨gb283, 0, none⟩) (Kd.R_types HO_15.out BK283.out (by decide)) (fun _ hk => hk.2) (.int .i64 ((rd_T49 x14_46 x17_5).f0))) (fun _ hk => hk.2) (.int .i64 ((rd_T49 x14_46 x17_5).f1))) (fun _ hk => hk.2) (.int .i64 ((rd_T49 x14_46 x17_5).f2))) (fun _ hk => hk.2) (.string ((rd_T49 x14_46 x17_5).f3))) (fun _ hk => hk.2) (.int .i64 (wrap64 (((rd_T49 x14_46 x17_5).f2) + (t248.size : Int))))) (fun _ hk => hk.1)⟩
                      have n4_ : Aside0 ((((((w55.setCell ⟨gb283, 0, none⟩ (.int .i64 ((rd_T49 x14_46 x17_5).f0))).setCell ⟨gb283, 1, none⟩ (.int .i64 ((rd_T49 x14_46 x17_5).f1))).setCell ⟨gb283, 2, none⟩ (.int .i64 ((rd_T49 x14_46 x17_5).f2))).setCell ⟨gb283, 3, none⟩ (.string ((rd_T49 x14_46 x17_5).f3))).setCell ⟨gb283, 2, none⟩ (.int .i64 (wrap64 (((rd_T49 x14_46 x17_5).f2) + (t248.size : Int))))).heap[gb283]? = some (.cells #[.int .i64 ((rd_T49 x14_46 x17_5).f0), .int .i64 ((rd_T49 x14_46 x17_5).f1), .int .i64 (wrap64 (((rd_T49 x14_46 x17_5).f2) + (t248.size : Int))), .string ((rd_T49 x14_46 x17_5).f3)] 49 (0, 0))) := ⟨by (with_reducible repeat (first | refine blk_drewN ?_ _ | refine blk_drew ?_ | refine blk_alloc ?_ _)); refine blk_put (cs := #[.int .i64 ((rd_T49 x14_46 x17_5).f0), .int .i64 ((rd_T49 x14_46 x17_5).f1), .int .i64 ((rd_T49 x14_46 x17_5).f2), .string ((rd_T49 x14_46 x17_5).f3)]) ?_ 2 _ rfl; (with_reducible repeat (first | refine blk_drewN ?_ _ | refine blk_drew ?_ | refine blk_alloc ?_ _)); refine blk_put (cs := #[.int .i64 ((rd_T49 x14_46 x17_5).f0), .int .i64 ((rd_T49 x14_46 x17_5).f1), .int .i64 ((rd_T49 x14_46 x17_5).f2), .string (⟨#[]⟩ : ByteArray)]) ?_ 3 _ rfl; (with_reducible repeat (first | refine blk_drewN ?_ _ | refine blk_drew ?_ | refine blk_alloc ?_ _)); refine blk_put (cs := #[.int .i64 ((rd_T49 x14_46 x17_5).f0), .int .i64 ((rd_T49 x14_46 x17_5).f1), .int .i64 0, .string (⟨#[]⟩ : ByteArray)]) ?_ 2 _ rfl; (with_reducible repeat (first | refine blk_drewN ?_ _ | refine blk_drew ?_ | refine blk_alloc ?_ _)); refine blk_put (cs := #[.int .i64 ((rd_T49 x14_46 x17_5).f0), .int .i64 0, .int .i64 0, .string (⟨#[]⟩ : ByteArray)]) ?_ 1 _ rfl; (with_reducible repeat (first | refine blk_drewN ?_ _ | refine blk_drew ?_ | refine blk_alloc ?_ _)); refine blk_put (cs := #[.int .i64 0, .int .i64 0, .int .i64 0, .string (⟨#[]⟩ : ByteArray)]) ?_ 0 _ rfl; (with_reducible repeat (first | refine blk_drewN ?_ _ | refine blk_drew ?_ | refine blk_alloc ?_ _)); exact BK283.out⟩
                      have n5_ : Aside0 (Below w.heap.size w (((((w55.setCell ⟨gb283, 0, none⟩ (.int .i64 ((rd_T49 x14_46 x17_5).f0))).setCell ⟨gb283, 1, none⟩ (.int .i64 ((rd_T49 x14_46 x17_5).f1))).setCell ⟨gb283, 2, none⟩ (.int .i64 ((rd_T49 x14_46 x17_5).f2))).setCell ⟨gb283, 3, none⟩ (.string ((rd_T49 x14_46 x17_5).f3))).setCell ⟨gb283, 2, none⟩ (.int .i64 (wrap64 (((rd_T49 x14_46 x17_5).f2) + (t248.size : Int)))))) := ⟨by repeat (first | (with_reducible first | exact HB.out | apply below_alloc | apply pw_below_drewN | apply below_drew1 | refine below_set ?_ GE283.out) | exact HB.out)⟩
                      (try clear HO_12)
                      (try clear HO_13)
                      (try clear HO_14)
                      (try clear HO_15)
                      (try clear BK283)
                      (try clear HB)
                      generalize (((((w55.setCell ⟨gb283, 0, none⟩ (.int .i64 ((rd_T49 x14_46 x17_5).f0))).setCell ⟨gb283, 1, none⟩ (.int .i64 ((rd_T49 x14_46 x17_5).f1))).setCell ⟨gb283, 2, none⟩ (.int .i64 ((rd_T49 x14_46 x17_5).f2))).setCell ⟨gb283, 3, none⟩ (.string ((rd_T49 x14_46 x17_5).f3))).setCell ⟨gb283, 2, none⟩ (.int .i64 (wrap64 (((rd_T49 x14_46 x17_5).f2) + (t248.size : Int))))) = w57 at n0_ n1_ n2_ n3_ n4_ n5_ ⊢
                      have HO_12 := n0_
                      have HO_13 := n1_
                      have HO_14 := n2_
                      have HO_15 := n3_
                      have BK283 := n4_
                      have HB := n5_
                      clear n0_ n1_ n2_ n3_ n4_ n5_
                      have n0_ := Aside0.mk (Kd.Q_drew HO_12.out)
                      have n1_ := Aside0.mk (Kd.Q_drew HO_13.out)
                      have n2_ := Aside0.mk (Kd.R_drew HO_14.out)
                      have n3_ := Aside0.mk (Kd.R_drew HO_15.out)
                      have n4_ := Aside0.mk (blk_drew BK283.out)
                      have n5_ := Aside0.mk (below_drew1 HB.out)
                      clear HO_12
                      clear HO_13
                      clear HO_14
                      clear HO_15
                      clear BK283
                      clear HB
                      have HO_12 := n0_
                      have HO_13 := n1_
                      have HO_14 := n2_
                      have HO_15 := n3_
                      have BK283 := n4_
                      have HB := n5_
                      clear n0_ n1_ n2_ n3_ n4_ n5_
                      have p284 : 0 ≤ (x17_5 : Int) := of_decide_eq_true (by first | (with_reducible assumption) | assumption)
                      have q284 : x17_5 < (y275.length : Int) := of_decide_eq_true (by first | (with_reducible assumption) | assumption)
                      obtain ⟨ad284, e284, hx284_0, hx284_1, hx284_2, hx284_3⟩ := at_T49 (Kd.Q_reads' HO_12.out).2.2 x17_5 p284 q284
                      cases e284
                      replace p284 := eq_true p284
                      replace q284 := eq_true q284
                      refine start_ (n := 20) (S := fun w' => w'.cell? ⟨gb283, 0, none⟩ = some (.int .i64 ((rd_T49 x14_46 x17_5).f0)) ∧ w'.cell? ⟨gb283, 1, none⟩ = some (.int .i64 ((rd_T49 x14_46 x17_5).f1)) ∧ w'.cell? ⟨gb283, 2, none⟩ = some (.int .i64 (wrap64 (((rd_T49 x14_46 x17_5).f2) + (t248.size : Int)))) ∧ w'.cell? ⟨gb283, 3, none⟩ = some (.string ((rd_T49 x14_46 x17_5).f3)) ∧ w'.cell? (ad284.add ((x17_5).toNat * 4)) = some (.int .i64 ((rd_T49 y275 x17_5).f0)) ∧ w'.cell? ⟨(ad284.add ((x17_5).toNat * 4)).block, (ad284.add ((x17_5).toNat * 4)).off + 1, none⟩ = some (.int .i64 ((rd_T49 y275 x17_5).f1)) ∧ w'.cell? ⟨(ad284.add ((x17_5).toNat * 4)).block, (ad284.add ((x17_5).toNat * 4)).off + 2, none⟩ = some (.int .i64 ((rd_T49 y275 x17_5).f2)) ∧ w'.cell? ⟨(ad284.add ((x17_5).toNat * 4)).block, (ad284.add ((x17_5).toNat * 4)).off + 3, none⟩ = some (.string ((rd_T49 y275 x17_5).f3))) (ds := []) #[false, false, false, false, false, false, false, false, false, false, false, false, false, false, false, false, false, false, false, false] (by kernel_rfl) rfl rfl ⟨(blk_cell BK283.out 0).trans rfl, (blk_cell BK283.out 1).trans rfl, (blk_cell BK283.out 2).trans rfl, (blk_cell BK283.out 3).trans rfl, hx284_0, hx284_1, hx284_2, hx284_3⟩ (fun hHeld => ?_); refine with_tabW postbaglaw10_FrameTail.tab20 postbaglaw10_FrameTail.bits20 (fun HT_ HW_ => ?_)
                      generalize w57.drew = w58 at HO_12 HO_13 HO_14 HO_15 BK283 HB hx284_0 hx284_1 hx284_2 hx284_3 hHeld ⊢
                      refine pure_ (i := 0) (N := some 111) (v := ?_) (a' := ?_) #[true, false, false, false, false, false, false, false, false, false, false, false, false, false, false, false, false, false, false, false] rfl rfl (any_of HT_.out (by kernel_rfl)) (fun _ _ _ h => h) (Or.inl ⟨by rfl, ?_⟩) ?_ ?_
                      rotate_left
                      ·intro w'
                       go_simp
                       with_reducible rfl
                      rotate_left
                      ·simp only [Act.put, List.setIfInBounds_toArray, List.set_cons_zero, List.set_cons_succ, i64_w, i32_w]
                       rfl
                      refine pure_ (i := 1) (N := some 112) (v := ?_) (a' := ?_) #[true, true, false, false, false, false, false, false, false, false, false, false, false, false, false, false, false, false, false, false] rfl rfl (any_of HT_.out (by kernel_rfl)) (fun _ _ _ h => h) (Or.inl ⟨by rfl, ?_⟩) ?_ ?_
                      rotate_left
                      ·intro w'
                       go_simp
                       with_reducible rfl
                      rotate_left
                      ·simp only [Act.put, List.setIfInBounds_toArray, List.set_cons_zero, List.set_cons_succ, i64_w, i32_w]
                       rfl
                      refine pure_ (i := 2) (N := some 113) (v := ?_) (a' := ?_) #[true, true, true, false, false, false, false, false, false, false, false, false, false, false, false, false, false, false, false, false] rfl rfl (any_of HT_.out (by kernel_rfl)) (fun _ _ _ h => h) (Or.inl ⟨by rfl, ?_⟩) ?_ ?_
                      rotate_left
                      ·intro w'
                       go_simp
                       with_reducible rfl
                      rotate_left
                      ·simp only [Act.put, List.setIfInBounds_toArray, List.set_cons_zero, List.set_cons_succ, i64_w, i32_w]
                       rfl
                      refine take_ (i := 3) (N := some 114) (v := ?_) (a' := ?_) #[true, true, true, true, false, false, false, false, false, false, false, false, false, false, false, false, false, false, false, false] rfl rfl (take_ofW HT_.out HW_.out (by kernel_rfl)) (fun _ _ _ h => h) (Or.inl ⟨by rfl, ?_⟩) hHeld ?_ ?_
                      rotate_left
                      ·rintro w' ⟨s0, s1, s2, s3, s4, s5, s6, s7⟩
                       go_simp
                       with_reducible rfl
                      rotate_left
                      ·simp only [Act.put, List.setIfInBounds_toArray, List.set_cons_zero, List.set_cons_succ, i64_w, i32_w]
                       rfl
                      refine take_ (i := 4) (N := some 115) (v := ?_) (a' := ?_) #[true, true, true, true, true, false, false, false, false, false, false, false, false, false, false, false, false, false, false, false] rfl rfl (take_ofW HT_.out HW_.out (by kernel_rfl)) (fun _ _ _ h => h) (Or.inl ⟨by rfl, ?_⟩) hHeld ?_ ?_
                      rotate_left
                      ·rintro w' ⟨s0, s1, s2, s3, s4, s5, s6, s7⟩
                       go_simp
                       with_reducible rfl
                      rotate_left
                      ·simp only [Act.put, List.setIfInBounds_toArray, List.set_cons_zero, List.set_cons_succ, i64_w, i32_w]
                       rfl
                      refine pure_ (i := 5) (N := some 116) (v := ?_) (a' := ?_) #[true, true, true, true, true, true, false, false, false, false, false, false, false, false, false, false, false, false, false, false] rfl rfl (any_of HT_.out (by kernel_rfl)) (fun _ _ _ h => h) (Or.inl ⟨by rfl, ?_⟩) ?_ ?_
                      rotate_left
                      ·intro w'
                       go_simp
                       with_reducible rfl
                      rotate_left
                      ·simp only [Act.put, List.setIfInBounds_toArray, List.set_cons_zero, List.set_cons_succ, i64_w, i32_w]
                       rfl
                      refine pure_ (i := 6) (N := some 117) (v := ?_) (a' := ?_) #[true, true, true, true, true, true, true, false, false, false, false, false, false, false, false, false, false, false, false, false] rfl rfl (any_of HT_.out (by kernel_rfl)) (fun _ _ _ h => h) (Or.inl ⟨by rfl, ?_⟩) ?_ ?_
                      rotate_left
                      ·intro w'
                       go_simp
                       with_reducible rfl
                      rotate_left
                      ·simp only [Act.put, List.setIfInBounds_toArray, List.set_cons_zero, List.set_cons_succ, i64_w, i32_w]
                       rfl
                      refine pure_ (i := 7) (N := some 118) (v := undef) (a' := ?_) #[true, true, true, true, true, true, true, true, false, false, false, false, false, false, false, false, false, false, false, false] rfl rfl (any_of HT_.out (by kernel_rfl)) (fun _ _ _ h => h) (Or.inr ⟨by rfl, rfl⟩) ?_ ?_
                      rotate_left
                      ·simp only [Act.put, List.setIfInBounds_toArray, List.set_cons_zero, List.set_cons_succ, i64_w, i32_w]
                       rfl
                      refine pure_ (i := 8) (N := some 119) (v := undef) (a' := ?_) #[true, true, true, true, true, true, true, true, true, false, false, false, false, false, false, false, false, false, false, false] rfl rfl (any_of HT_.out (by kernel_rfl)) (fun _ _ _ h => h) (Or.inr ⟨by rfl, rfl⟩) ?_ ?_
                      rotate_left
                      ·simp only [Act.put, List.setIfInBounds_toArray, List.set_cons_zero, List.set_cons_succ, i64_w, i32_w]
                       rfl
                      refine pure_ (i := 9) (N := some 120) (v := undef) (a' := ?_) #[true, true, true, true, true, true, true, true, true, true, false, false, false, false, false, false, false, false, false, false] rfl rfl (any_of HT_.out (by kernel_rfl)) (fun _ _ _ h => h) (Or.inr ⟨by rfl, rfl⟩) ?_ ?_
                      rotate_left
                      ·simp only [Act.put, List.setIfInBounds_toArray, List.set_cons_zero, List.set_cons_succ, i64_w, i32_w]
                       rfl
                      refine pure_ (i := 10) (N := some 121) (v := undef) (a' := ?_) #[true, true, true, true, true, true, true, true, true, true, true, false, false, false, false, false, false, false, false, false] rfl rfl (any_of HT_.out (by kernel_rfl)) (fun _ _ _ h => h) (Or.inr ⟨by rfl, rfl⟩) ?_ ?_
                      rotate_left
                      ·simp only [Act.put, List.setIfInBounds_toArray, List.set_cons_zero, List.set_cons_succ, i64_w, i32_w]
                       rfl
                      refine pure_ (i := 11) (N := some 122) (v := undef) (a' := ?_) #[true, true, true, true, true, true, true, true, true, true, true, true, false, false, false, false, false, false, false, false] rfl rfl (any_of HT_.out (by kernel_rfl)) (fun _ _ _ h => h) (Or.inr ⟨by rfl, rfl⟩) ?_ ?_
                      rotate_left
                      ·simp only [Act.put, List.setIfInBounds_toArray, List.set_cons_zero, List.set_cons_succ, i64_w, i32_w]
                       rfl
                      refine pure_ (i := 12) (N := some 123) (v := undef) (a' := ?_) #[true, true, true, true, true, true, true, true, true, true, true, true, true, false, false, false, false, false, false, false] rfl rfl (any_of HT_.out (by kernel_rfl)) (fun _ _ _ h => h) (Or.inr ⟨by rfl, rfl⟩) ?_ ?_
                      rotate_left
                      ·simp only [Act.put, List.setIfInBounds_toArray, List.set_cons_zero, List.set_cons_succ, i64_w, i32_w]
                       rfl
                      refine pure_ (i := 13) (N := some 124) (v := undef) (a' := ?_) #[true, true, true, true, true, true, true, true, true, true, true, true, true, true, false, false, false, false, false, false] rfl rfl (any_of HT_.out (by kernel_rfl)) (fun _ _ _ h => h) (Or.inr ⟨by rfl, rfl⟩) ?_ ?_
                      rotate_left
                      ·simp only [Act.put, List.setIfInBounds_toArray, List.set_cons_zero, List.set_cons_succ, i64_w, i32_w]
                       rfl
                      refine pure_ (i := 14) (N := some 125) (v := undef) (a' := ?_) #[true, true, true, true, true, true, true, true, true, true, true, true, true, true, true, false, false, false, false, false] rfl rfl (any_of HT_.out (by kernel_rfl)) (fun _ _ _ h => h) (Or.inr ⟨by rfl, rfl⟩) ?_ ?_
                      rotate_left
                      ·simp only [Act.put, List.setIfInBounds_toArray, List.set_cons_zero, List.set_cons_succ, i64_w, i32_w]
                       rfl
                      refine pure_ (i := 15) (N := some 126) (v := undef) (a' := ?_) #[true, true, true, true, true, true, true, true, true, true, true, true, true, true, true, true, false, false, false, false] rfl rfl (any_of HT_.out (by kernel_rfl)) (fun _ _ _ h => h) (Or.inr ⟨by rfl, rfl⟩) ?_ ?_
                      rotate_left
                      ·simp only [Act.put, List.setIfInBounds_toArray, List.set_cons_zero, List.set_cons_succ, i64_w, i32_w]
                       rfl
                      refine pure_ (i := 16) (N := some 127) (v := undef) (a' := ?_) #[true, true, true, true, true, true, true, true, true, true, true, true, true, true, true, true, true, false, false, false] rfl rfl (any_of HT_.out (by kernel_rfl)) (fun _ _ _ h => h) (Or.inr ⟨by rfl, rfl⟩) ?_ ?_
                      rotate_left
                      ·simp only [Act.put, List.setIfInBounds_toArray, List.set_cons_zero, List.set_cons_succ, i64_w, i32_w]
                       rfl
                      refine pure_ (i := 17) (N := some 128) (v := undef) (a' := ?_) #[true, true, true, true, true, true, true, true, true, true, true, true, true, true, true, true, true, true, false, false] rfl rfl (any_of HT_.out (by kernel_rfl)) (fun _ _ _ h => h) (Or.inr ⟨by rfl, rfl⟩) ?_ ?_
                      rotate_left
                      ·simp only [Act.put, List.setIfInBounds_toArray, List.set_cons_zero, List.set_cons_succ, i64_w, i32_w]
                       rfl
                      refine pure_ (i := 18) (N := some 129) (v := undef) (a' := ?_) #[true, true, true, true, true, true, true, true, true, true, true, true, true, true, true, true, true, true, true, false] rfl rfl (any_of HT_.out (by kernel_rfl)) (fun _ _ _ h => h) (Or.inr ⟨by rfl, rfl⟩) ?_ ?_
                      rotate_left
                      ·simp only [Act.put, List.setIfInBounds_toArray, List.set_cons_zero, List.set_cons_succ, i64_w, i32_w]
                       rfl
                      refine pure_ (i := 19) (N := some 130) (v := ?_) (a' := ?_) #[true, true, true, true, true, true, true, true, true, true, true, true, true, true, true, true, true, true, true, true] rfl rfl (any_of HT_.out (by kernel_rfl)) (fun _ _ _ h => h) (Or.inl ⟨by rfl, ?_⟩) ?_ ?_
                      rotate_left
                      ·intro w'
                       go_simp
                       with_reducible rfl
                      rotate_left
                      ·simp only [Act.put, List.setIfInBounds_toArray, List.set_cons_zero, List.set_cons_succ, i64_w, i32_w]
                       rfl
                      refine done_ (done_of HT_.out (by kernel_rfl)) ?_
                      try go_wp2
                      go_ret
                      exact ⟨by first | rfl | (simp [errW_none, errW_some] <;> rfl) | (simp [*, errW_none, errW_some] <;> rfl), by repeat (first | (with_reducible first | exact HB.out | apply below_alloc | apply pw_below_drewN | apply below_drew1 | refine below_set ?_ GE283.out) | exact HB.out)⟩
                     ·rw [if_neg c54] at H
                      have c54b0 : (!(((rd_T49 y275 x17_5).f0) == ((rd_T49 x14_46 x17_5).f0)) || (!(((rd_T49 y275 x17_5).f1) == ((rd_T49 x14_46 x17_5).f1)) || (!(((rd_T49 y275 x17_5).f2) == (wrap64 (((rd_T49 x14_46 x17_5).f2) + (t248.size : Int)))) || (!((((rd_T49 y275 x17_5).f3).toList) == (((rd_T49 x14_46 x17_5).f3).toList)))))) = false := by simpa using c54
                      clear c54
                      by_cases c59 : x17_5 < (y278.length : Int)
                      ·rw [if_pos c59] at H
                       have c59b0 : decide (x17_5 < (y278.length : Int)) = true := decide_eq_true c59
                       clear c59
                       by_cases c60 : x17_5 < (t261.length : Int)
                       ·rw [if_pos c60] at H
                        have c60b0 : decide (x17_5 < (t261.length : Int)) = true := decide_eq_true c60
                        clear c60
                        by_cases c61 : (rd y278 x17_5) = (wrap64 ((rd t261 x17_5) + (t248.size : Int)))
                        ·rw [if_pos c61] at H
                         have c61b0 : ((rd y278 x17_5) == (wrap64 ((rd t261 x17_5) + (t248.size : Int)))) = true := beq_iff_eq.mpr c61
                         have c61b1 : ((rd y278 x17_5) != (wrap64 ((rd t261 x17_5) + (t248.size : Int)))) = false := bne_eq_false_iff_eq.mpr c61
                         clear c61
                         have H' := Aside0.mk H
                         clear H
                         have p282 : 0 ≤ (x17_5 : Int) := of_decide_eq_true (by first | (with_reducible assumption) | assumption)
                         have q282 : x17_5 < (x14_46.length : Int) := of_decide_eq_true (by first | (with_reducible assumption) | assumption)
                         obtain ⟨ad282, e282, hx282_0, hx282_1, hx282_2, hx282_3⟩ := at_T49 (Kd.R_reads' HO_14.out).2.2 x17_5 p282 q282
                         cases e282
                         replace p282 := eq_true p282
                         replace q282 := eq_true q282
                         try go_wp2_with (first | ((with_reducible refine gate_dst (N := 18) rfl ?_); (try (refine gate_guard (by rfl) ?_; dsimp only)); refine box_event ?hg (N := 18) ?hd (cs := #[.int .i64 0, .int .i64 0, .int .i64 0, .string (⟨#[]⟩ : ByteArray)]) (t := 49) ?hr ?_; (case hd => rfl); (case hg => rfl); (case hr => first | (go_simp; done) | (go_simp; rfl)); intro gb283 hg w62 hbox hb; have n0_ := Aside0.mk (Kd.Q_below (Kd.Q_elderB (by (with_reducible repeat (first | apply Kd.Q_alloc | apply Kd.Q_drewN | apply Kd.Q_drew)); exact HO_12.out) gb283 (Nat.le_of_eq hg.symm)) hb); have n1_ := Aside0.mk (Kd.Q_below (by (with_reducible repeat (first | apply Kd.Q_alloc | apply Kd.Q_drewN | apply Kd.Q_drew)); exact HO_13.out) hb); have n2_ := Aside0.mk (Kd.R_below (Kd.R_elderB (by (with_reducible repeat (first | apply Kd.R_alloc | apply Kd.R_drewN | apply Kd.R_drew)); exact HO_14.out) gb283 (Nat.le_of_eq hg.symm)) hb); have n3_ := Aside0.mk (Kd.R_below (by (with_reducible repeat (first | apply Kd.R_alloc | apply Kd.R_drewN | apply Kd.R_drew)); exact HO_15.out) hb); have n4_ := Aside0.mk (below_step (by repeat (first | (with_reducible first | exact HB.out | apply below_alloc | apply pw_below_drewN | apply below_drew1) | exact HB.out)) hb); have n5_ := Aside0.mk (hbox); have n6_ := Aside0.mk ((by rw [hg]; exact (below_size (by repeat (first | (with_reducible first | exact HB.out | apply below_alloc | apply pw_below_drewN | apply below_drew1) | exact HB.out))) : w.heap.size ≤ gb283)); have n7_ := Aside0.mk ((by rw [hg]; exact (below_size (by repeat (first | (with_reducible first | exact HB.out | apply below_alloc | apply pw_below_drewN | apply below_drew1) | exact HB.out))) : w.heap.size ≤ gb283)); clear HO_12; clear HO_13; clear HO_14; clear HO_15; clear HB; have HO_12 := n0_; have HO_13 := n1_; have HO_14 := n2_; have HO_15 := n3_; have HB := n4_; have BK283 := n5_; have GW283 := n6_; have GE283 := n7_; clear n0_ n1_ n2_ n3_ n4_ n5_ n6_ n7_; clear hb hbox hg; have hcz63_0 : w62.cell? ⟨gb283, 0, none⟩ = some (.int .i64 0) := (blk_cell BK283.out 0).trans rfl; have hcz63_1 : w62.cell? ⟨gb283, 1, none⟩ = some (.int .i64 0) := (blk_cell BK283.out 1).trans rfl; have hcz63_2 : w62.cell? ⟨gb283, 2, none⟩ = some (.int .i64 0) := (blk_cell BK283.out 2).trans rfl; have hcz63_3 : w62.cell? ⟨gb283, 3, none⟩ = some (.string (⟨#[]⟩ : ByteArray)) := (blk_cell BK283.out 3).trans rfl; have hfz63_0 := blk_frozen BK283.out 0; have hfz63_1 := blk_frozen BK283.out 1; have hfz63_2 := blk_frozen BK283.out 2; have hfz63_3 := blk_frozen BK283.out 3))
                         have n0_ : Aside0 (Kd.Q k49 49 (((((w62.setCell ⟨gb283, 0, none⟩ (.int .i64 ((rd_T49 x14_46 x17_5).f0))).setCell ⟨gb283, 1, none⟩ (.int .i64 ((rd_T49 x14_46 x17_5).f1))).setCell ⟨gb283, 2, none⟩ (.int .i64 ((rd_T49 x14_46 x17_5).f2))).setCell ⟨gb283, 3, none⟩ (.string ((rd_T49 x14_46 x17_5).f3))).setCell ⟨gb283, 2, none⟩ (.int .i64 (wrap64 (((rd_T49 x14_46 x17_5).f2) + (t248.size : Int))))) w.heap.size (fun k_ => some k_ ≠ (.slice (some ad282) x14_46.length co50 : Value).ownBlock ∧ k_ ≠ gb283) (.slice A39 y275.length c39) y275) := ⟨by (with_reducible repeat (first | apply Kd.Q_alloc | apply Kd.Q_drewN | apply Kd.Q_drew)); exact Kd.Q_mono (Kd.Q_far (p := ⟨gb283, 2, none⟩) (Kd.Q_far (p := ⟨gb283, 3, none⟩) (Kd.Q_far (p := ⟨gb283, 2, none⟩) (Kd.Q_far (p := ⟨gb283, 1, none⟩) (Kd.Q_far (p := ⟨gb283, 0, none⟩) (Kd.Q_mono HO_12.out (fun k_ hk => (⟨hk, hk.2⟩ : _ ∧ k_ ≠ gb283))) (fun _ hk => hk.2) (.int .i64 ((rd_T49 x14_46 x17_5).f0))) (fun _ hk => hk.2) (.int .i64 ((rd_T49 x14_46 x17_5).f1))) (fun _ hk => hk.2) (.int .i64 ((rd_T49 x14_46 x17_5).f2))) (fun _ hk => hk.2) (.string ((rd_T49 x14_46 x17_5).f3))) (fun _ hk => hk.2) (.int .i64 (wrap64 (((rd_T49 x14_46 x17_5).f2) + (t248.size : Int))))) (fun _ hk => ⟨hk.1.1, hk.1.2⟩)⟩
                         have n1_ : Aside0 (Kd.Q (Kd.int .i64) 3 (((((w62.setCell ⟨gb283, 0, none⟩ (.int .i64 ((rd_T49 x14_46 x17_5).f0))).setCell ⟨gb283, 1, none⟩ (.int .i64 ((rd_T49 x14_46 x17_5).f1))).setCell ⟨gb283, 2, none⟩ (.int .i64 ((rd_T49 x14_46 x17_5).f2))).setCell ⟨gb283, 3, none⟩ (.string ((rd_T49 x14_46 x17_5).f3))).setCell ⟨gb283, 2, none⟩ (.int .i64 (wrap64 (((rd_T49 x14_46 x17_5).f2) + (t248.size : Int))))) w.heap.size (fun k_ => some k_ ≠ (v264 : Value).ownBlock) (.slice A41 y278.length c41) y278) := ⟨by (with_reducible repeat (first | apply Kd.Q_alloc | apply Kd.Q_drewN | apply Kd.Q_drew)); exact Kd.Q_mono (Kd.Q_far (p := ⟨gb283, 2, none⟩) (Kd.Q_far (p := ⟨gb283, 3, none⟩) (Kd.Q_far (p := ⟨gb283, 2, none⟩) (Kd.Q_far (p := ⟨gb283, 1, none⟩) (Kd.Q_far (p := ⟨gb283, 0, none⟩) (Kd.Q_types HO_13.out BK283.out (by decide)) (fun _ hk => hk.2) (.int .i64 ((rd_T49 x14_46 x17_5).f0))) (fun _ hk => hk.2) (.int .i64 ((rd_T49 x14_46 x17_5).f1))) (fun _ hk => hk.2) (.int .i64 ((rd_T49 x14_46 x17_5).f2))) (fun _ hk => hk.2) (.string ((rd_T49 x14_46 x17_5).f3))) (fun _ hk => hk.2) (.int .i64 (wrap64 (((rd_T49 x14_46 x17_5).f2) + (t248.size : Int))))) (fun _ hk => hk.1)⟩
                         have n2_ : Aside0 (Kd.R k49 49 (((((w62.setCell ⟨gb283, 0, none⟩ (.int .i64 ((rd_T49 x14_46 x17_5).f0))).setCell ⟨gb283, 1, none⟩ (.int .i64 ((rd_T49 x14_46 x17_5).f1))).setCell ⟨gb283, 2, none⟩ (.int .i64 ((rd_T49 x14_46 x17_5).f2))).setCell ⟨gb283, 3, none⟩ (.string ((rd_T49 x14_46 x17_5).f3))).setCell ⟨gb283, 2, none⟩ (.int .i64 (wrap64 (((rd_T49 x14_46 x17_5).f2) + (t248.size : Int))))) w.heap.size (fun k_ => some k_ ≠ (.slice A39 y275.length c39 : Value).ownBlock ∧ k_ ≠ gb283) (.slice (some ad282) x14_46.length co50) x14_46) := ⟨by (with_reducible repeat (first | apply Kd.R_alloc | apply Kd.R_drewN | apply Kd.R_drew)); exact Kd.R_mono (Kd.R_far (p := ⟨gb283, 2, none⟩) (Kd.R_far (p := ⟨gb283, 3, none⟩) (Kd.R_far (p := ⟨gb283, 2, none⟩) (Kd.R_far (p := ⟨gb283, 1, none⟩) (Kd.R_far (p := ⟨gb283, 0, none⟩) (Kd.R_mono HO_14.out (fun k_ hk => (⟨hk, hk.2⟩ : _ ∧ k_ ≠ gb283))) (fun _ hk => hk.2) (.int .i64 ((rd_T49 x14_46 x17_5).f0))) (fun _ hk => hk.2) (.int .i64 ((rd_T49 x14_46 x17_5).f1))) (fun _ hk => hk.2) (.int .i64 ((rd_T49 x14_46 x17_5).f2))) (fun _ hk => hk.2) (.string ((rd_T49 x14_46 x17_5).f3))) (fun _ hk => hk.2) (.int .i64 (wrap64 (((rd_T49 x14_46 x17_5).f2) + (t248.size : Int))))) (fun _ hk => ⟨hk.1.1, hk.1.2⟩)⟩
                         have n3_ : Aside0 (Kd.R (Kd.int .i64) 3 (((((w62.setCell ⟨gb283, 0, none⟩ (.int .i64 ((rd_T49 x14_46 x17_5).f0))).setCell ⟨gb283, 1, none⟩ (.int .i64 ((rd_T49 x14_46 x17_5).f1))).setCell ⟨gb283, 2, none⟩ (.int .i64 ((rd_T49 x14_46 x17_5).f2))).setCell ⟨gb283, 3, none⟩ (.string ((rd_T49 x14_46 x17_5).f3))).setCell ⟨gb283, 2, none⟩ (.int .i64 (wrap64 (((rd_T49 x14_46 x17_5).f2) + (t248.size : Int))))) w.heap.size (fun k_ => some k_ ≠ (.slice A41 y278.length c41 : Value).ownBlock) v264 t261) := ⟨by (with_reducible repeat (first | apply Kd.R_alloc | apply Kd.R_drewN | apply Kd.R_drew)); exact Kd.R_mono (Kd.R_far (p := ⟨gb283, 2, none⟩) (Kd.R_far (p := ⟨gb283, 3, none⟩) (Kd.R_far (p := ⟨gb283, 2, none⟩) (Kd.R_far (p := ⟨gb283, 1, none⟩) (Kd.R_far (p := ⟨gb283, 0, none⟩) (Kd.R_types HO_15.out BK283.out (by decide)) (fun _ hk => hk.2) (.int .i64 ((rd_T49 x14_46 x17_5).f0))) (fun _ hk => hk.2) (.int .i64 ((rd_T49 x14_46 x17_5).f1))) (fun _ hk => hk.2) (.int .i64 ((rd_T49 x14_46 x17_5).f2))) (fun _ hk => hk.2) (.string ((rd_T49 x14_46 x17_5).f3))) (fun _ hk => hk.2) (.int .i64 (wrap64 (((rd_T49 x14_46 x17_5).f2) + (t248.size : Int))))) (fun _ hk => hk.1)⟩
                         have n4_ : Aside0 ((((((w62.setCell ⟨gb283, 0, none⟩ (.int .i64 ((rd_T49 x14_46 x17_5).f0))).setCell ⟨gb283, 1, none⟩ (.int .i64 ((rd_T49 x14_46 x17_5).f1))).setCell ⟨gb283, 2, none⟩ (.int .i64 ((rd_T49 x14_46 x17_5).f2))).setCell ⟨gb283, 3, none⟩ (.string ((rd_T49 x14_46 x17_5).f3))).setCell ⟨gb283, 2, none⟩ (.int .i64 (wrap64 (((rd_T49 x14_46 x17_5).f2) + (t248.size : Int))))).heap[gb283]? = some (.cells #[.int .i64 ((rd_T49 x14_46 x17_5).f0), .int .i64 ((rd_T49 x14_46 x17_5).f1), .int .i64 (wrap64 (((rd_T49 x14_46 x17_5).f2) + (t248.size : Int))), .string ((rd_T49 x14_46 x17_5).f3)] 49 (0, 0))) := ⟨by (with_reducible repeat (first | refine blk_drewN ?_ _ | refine blk_drew ?_ | refine blk_alloc ?_ _)); refine blk_put (cs := #[.int .i64 ((rd_T49 x14_46 x17_5).f0), .int .i64 ((rd_T49 x14_46 x17_5).f1), .int .i64 ((rd_T49 x14_46 x17_5).f2), .string ((rd_T49 x14_46 x17_5).f3)]) ?_ 2 _ rfl; (with_reducible repeat (first | refine blk_drewN ?_ _ | refine blk_drew ?_ | refine blk_alloc ?_ _)); refine blk_put (cs := #[.int .i64 ((rd_T49 x14_46 x17_5).f0), .int .i64 ((rd_T49 x14_46 x17_5).f1), .int .i64 ((rd_T49 x14_46 x17_5).f2), .string (⟨#[]⟩ : ByteArray)]) ?_ 3 _ rfl; (with_reducible repeat (first | refine blk_drewN ?_ _ | refine blk_drew ?_ | refine blk_alloc ?_ _)); refine blk_put (cs := #[.int .i64 ((rd_T49 x14_46 x17_5).f0), .int .i64 ((rd_T49 x14_46 x17_5).f1), .int .i64 0, .string (⟨#[]⟩ : ByteArray)]) ?_ 2 _ rfl; (with_reducible repeat (first | refine blk_drewN ?_ _ | refine blk_drew ?_ | refine blk_alloc ?_ _)); refine blk_put (cs := #[.int .i64 ((rd_T49 x14_46 x17_5).f0), .int .i64 0, .int .i64 0, .string (⟨#[]⟩ : ByteArray)]) ?_ 1 _ rfl; (with_reducible repeat (first | refine blk_drewN ?_ _ | refine blk_drew ?_ | refine blk_alloc ?_ _)); refine blk_put (cs := #[.int .i64 0, .int .i64 0, .int .i64 0, .string (⟨#[]⟩ : ByteArray)]) ?_ 0 _ rfl; (with_reducible repeat (first | refine blk_drewN ?_ _ | refine blk_drew ?_ | refine blk_alloc ?_ _)); exact BK283.out⟩
                         have n5_ : Aside0 (Below w.heap.size w (((((w62.setCell ⟨gb283, 0, none⟩ (.int .i64 ((rd_T49 x14_46 x17_5).f0))).setCell ⟨gb283, 1, none⟩ (.int .i64 ((rd_T49 x14_46 x17_5).f1))).setCell ⟨gb283, 2, none⟩ (.int .i64 ((rd_T49 x14_46 x17_5).f2))).setCell ⟨gb283, 3, none⟩ (.string ((rd_T49 x14_46 x17_5).f3))).setCell ⟨gb283, 2, none⟩ (.int .i64 (wrap64 (((rd_T49 x14_46 x17_5).f2) + (t248.size : Int)))))) := ⟨by repeat (first | (with_reducible first | exact HB.out | apply below_alloc | apply pw_below_drewN | apply below_drew1 | refine below_set ?_ GE283.out) | exact HB.out)⟩
                         (try clear HO_12)
                         (try clear HO_13)
                         (try clear HO_14)
                         (try clear HO_15)
                         (try clear BK283)
                         (try clear HB)
                         generalize (((((w62.setCell ⟨gb283, 0, none⟩ (.int .i64 ((rd_T49 x14_46 x17_5).f0))).setCell ⟨gb283, 1, none⟩ (.int .i64 ((rd_T49 x14_46 x17_5).f1))).setCell ⟨gb283, 2, none⟩ (.int .i64 ((rd_T49 x14_46 x17_5).f2))).setCell ⟨gb283, 3, none⟩ (.string ((rd_T49 x14_46 x17_5).f3))).setCell ⟨gb283, 2, none⟩ (.int .i64 (wrap64 (((rd_T49 x14_46 x17_5).f2) + (t248.size : Int))))) = w64 at n0_ n1_ n2_ n3_ n4_ n5_ ⊢
                         have HO_12 := n0_
                         have HO_13 := n1_
                         have HO_14 := n2_
                         have HO_15 := n3_
                         have BK283 := n4_
                         have HB := n5_
                         clear n0_ n1_ n2_ n3_ n4_ n5_
                         have n0_ := Aside0.mk (Kd.Q_drew HO_12.out)
                         have n1_ := Aside0.mk (Kd.Q_drew HO_13.out)
                         have n2_ := Aside0.mk (Kd.R_drew HO_14.out)
                         have n3_ := Aside0.mk (Kd.R_drew HO_15.out)
                         have n4_ := Aside0.mk (blk_drew BK283.out)
                         have n5_ := Aside0.mk (below_drew1 HB.out)
                         clear HO_12
                         clear HO_13
                         clear HO_14
                         clear HO_15
                         clear BK283
                         clear HB
                         have HO_12 := n0_
                         have HO_13 := n1_
                         have HO_14 := n2_
                         have HO_15 := n3_
                         have BK283 := n4_
                         have HB := n5_
                         clear n0_ n1_ n2_ n3_ n4_ n5_
                         have p284 : 0 ≤ (x17_5 : Int) := of_decide_eq_true (by first | (with_reducible assumption) | assumption)
                         have q284 : x17_5 < (y275.length : Int) := of_decide_eq_true (by first | (with_reducible assumption) | assumption)
                         obtain ⟨ad284, e284, hx284_0, hx284_1, hx284_2, hx284_3⟩ := at_T49 (Kd.Q_reads' HO_12.out).2.2 x17_5 p284 q284
                         cases e284
                         replace p284 := eq_true p284
                         replace q284 := eq_true q284
                         have p285 : 0 ≤ (x17_5 : Int) := of_decide_eq_true (by first | (with_reducible assumption) | assumption)
                         have q285 : x17_5 < (y278.length : Int) := of_decide_eq_true (by first | (with_reducible assumption) | assumption)
                         obtain ⟨ad285, e285, hx285_0⟩ := Kd.at_int (Kd.Q_reads' HO_13.out).2.2 x17_5 p285 q285
                         cases e285
                         replace p285 := eq_true p285
                         replace q285 := eq_true q285
                         obtain ⟨Ao66, co66, eo66⟩ := Kd.R_slice HO_15.out
                         (first | subst eo66 | (injection eo66 with f1_ f2_ f3_; have f4_ := f1_.symm; have f5_ := f3_.symm; clear f1_ f2_ f3_; subst f4_; subst f5_))
                         have p286 : 0 ≤ (x17_5 : Int) := of_decide_eq_true (by first | (with_reducible assumption) | assumption)
                         have q286 : x17_5 < (t261.length : Int) := of_decide_eq_true (by first | (with_reducible assumption) | assumption)
                         obtain ⟨ad286, e286, hx286_0⟩ := Kd.at_int (Kd.R_reads' HO_15.out).2.2 x17_5 p286 q286
                         cases e286
                         replace p286 := eq_true p286
                         replace q286 := eq_true q286
                         refine start_ (n := 20) (S := fun w' => w'.cell? ⟨gb283, 0, none⟩ = some (.int .i64 ((rd_T49 x14_46 x17_5).f0)) ∧ w'.cell? ⟨gb283, 1, none⟩ = some (.int .i64 ((rd_T49 x14_46 x17_5).f1)) ∧ w'.cell? ⟨gb283, 2, none⟩ = some (.int .i64 (wrap64 (((rd_T49 x14_46 x17_5).f2) + (t248.size : Int)))) ∧ w'.cell? ⟨gb283, 3, none⟩ = some (.string ((rd_T49 x14_46 x17_5).f3)) ∧ w'.cell? (ad284.add ((x17_5).toNat * 4)) = some (.int .i64 ((rd_T49 y275 x17_5).f0)) ∧ w'.cell? ⟨(ad284.add ((x17_5).toNat * 4)).block, (ad284.add ((x17_5).toNat * 4)).off + 1, none⟩ = some (.int .i64 ((rd_T49 y275 x17_5).f1)) ∧ w'.cell? ⟨(ad284.add ((x17_5).toNat * 4)).block, (ad284.add ((x17_5).toNat * 4)).off + 2, none⟩ = some (.int .i64 ((rd_T49 y275 x17_5).f2)) ∧ w'.cell? ⟨(ad284.add ((x17_5).toNat * 4)).block, (ad284.add ((x17_5).toNat * 4)).off + 3, none⟩ = some (.string ((rd_T49 y275 x17_5).f3)) ∧ w'.cell? (ad285.add (x17_5).toNat) = some (.int .i64 (rd y278 x17_5)) ∧ w'.cell? (ad286.add (x17_5).toNat) = some (.int .i64 (rd t261 x17_5))) (ds := []) #[false, false, false, false, false, false, false, false, false, false, false, false, false, false, false, false, false, false, false, false] (by kernel_rfl) rfl rfl ⟨(blk_cell BK283.out 0).trans rfl, (blk_cell BK283.out 1).trans rfl, (blk_cell BK283.out 2).trans rfl, (blk_cell BK283.out 3).trans rfl, hx284_0, hx284_1, hx284_2, hx284_3, hx285_0, hx286_0⟩ (fun hHeld => ?_); refine with_tabW postbaglaw10_FrameTail.tab20 postbaglaw10_FrameTail.bits20 (fun HT_ HW_ => ?_)
                         generalize w64.drew = w65 at HO_12 HO_13 HO_14 HO_15 BK283 HB hx284_0 hx284_1 hx284_2 hx284_3 hx285_0 hx286_0 hHeld ⊢
                         refine pure_ (i := 0) (N := some 111) (v := ?_) (a' := ?_) #[true, false, false, false, false, false, false, false, false, false, false, false, false, false, false, false, false, false, false, false] rfl rfl (any_of HT_.out (by kernel_rfl)) (fun _ _ _ h => h) (Or.inl ⟨by rfl, ?_⟩) ?_ ?_
                         rotate_left
                         ·intro w'
                          go_simp
                          with_reducible rfl
                         rotate_left
                         ·simp only [Act.put, List.setIfInBounds_toArray, List.set_cons_zero, List.set_cons_succ, i64_w, i32_w]
                          rfl
                         refine pure_ (i := 1) (N := some 112) (v := ?_) (a' := ?_) #[true, true, false, false, false, false, false, false, false, false, false, false, false, false, false, false, false, false, false, false] rfl rfl (any_of HT_.out (by kernel_rfl)) (fun _ _ _ h => h) (Or.inl ⟨by rfl, ?_⟩) ?_ ?_
                         rotate_left
                         ·intro w'
                          go_simp
                          with_reducible rfl
                         rotate_left
                         ·simp only [Act.put, List.setIfInBounds_toArray, List.set_cons_zero, List.set_cons_succ, i64_w, i32_w]
                          rfl
                         refine pure_ (i := 2) (N := some 113) (v := ?_) (a' := ?_) #[true, true, true, false, false, false, false, false, false, false, false, false, false, false, false, false, false, false, false, false] rfl rfl (any_of HT_.out (by kernel_rfl)) (fun _ _ _ h => h) (Or.inl ⟨by rfl, ?_⟩) ?_ ?_
                         rotate_left
                         ·intro w'
                          go_simp
                          with_reducible rfl
                         rotate_left
                         ·simp only [Act.put, List.setIfInBounds_toArray, List.set_cons_zero, List.set_cons_succ, i64_w, i32_w]
                          rfl
                         refine take_ (i := 3) (N := some 114) (v := ?_) (a' := ?_) #[true, true, true, true, false, false, false, false, false, false, false, false, false, false, false, false, false, false, false, false] rfl rfl (take_ofW HT_.out HW_.out (by kernel_rfl)) (fun _ _ _ h => h) (Or.inl ⟨by rfl, ?_⟩) hHeld ?_ ?_
                         rotate_left
                         ·rintro w' ⟨s0, s1, s2, s3, s4, s5, s6, s7, s8, s9⟩
                          go_simp
                          with_reducible rfl
                         rotate_left
                         ·simp only [Act.put, List.setIfInBounds_toArray, List.set_cons_zero, List.set_cons_succ, i64_w, i32_w]
                          rfl
                         refine take_ (i := 4) (N := some 115) (v := ?_) (a' := ?_) #[true, true, true, true, true, false, false, false, false, false, false, false, false, false, false, false, false, false, false, false] rfl rfl (take_ofW HT_.out HW_.out (by kernel_rfl)) (fun _ _ _ h => h) (Or.inl ⟨by rfl, ?_⟩) hHeld ?_ ?_
                         rotate_left
                         ·rintro w' ⟨s0, s1, s2, s3, s4, s5, s6, s7, s8, s9⟩
                          go_simp
                          with_reducible rfl
                         rotate_left
                         ·simp only [Act.put, List.setIfInBounds_toArray, List.set_cons_zero, List.set_cons_succ, i64_w, i32_w]
                          rfl
                         refine pure_ (i := 5) (N := some 116) (v := ?_) (a' := ?_) #[true, true, true, true, true, true, false, false, false, false, false, false, false, false, false, false, false, false, false, false] rfl rfl (any_of HT_.out (by kernel_rfl)) (fun _ _ _ h => h) (Or.inl ⟨by rfl, ?_⟩) ?_ ?_
                         rotate_left
                         ·intro w'
                          go_simp
                          with_reducible rfl
                         rotate_left
                         ·simp only [Act.put, List.setIfInBounds_toArray, List.set_cons_zero, List.set_cons_succ, i64_w, i32_w]
                          rfl
                         refine pure_ (i := 6) (N := some 117) (v := ?_) (a' := ?_) #[true, true, true, true, true, true, true, false, false, false, false, false, false, false, false, false, false, false, false, false] rfl rfl (any_of HT_.out (by kernel_rfl)) (fun _ _ _ h => h) (Or.inl ⟨by rfl, ?_⟩) ?_ ?_
                         rotate_left
                         ·intro w'
                          go_simp
                          with_reducible rfl
                         rotate_left
                         ·simp only [Act.put, List.setIfInBounds_toArray, List.set_cons_zero, List.set_cons_succ, i64_w, i32_w]
                          rfl
                         refine pure_ (i := 7) (N := some 118) (v := ?_) (a' := ?_) #[true, true, true, true, true, true, true, true, false, false, false, false, false, false, false, false, false, false, false, false] rfl rfl (any_of HT_.out (by kernel_rfl)) (fun _ _ _ h => h) (Or.inl ⟨by rfl, ?_⟩) ?_ ?_
                         rotate_left
                         ·intro w'
                          go_simp
                          with_reducible rfl
                         rotate_left
                         ·simp only [Act.put, List.setIfInBounds_toArray, List.set_cons_zero, List.set_cons_succ, i64_w, i32_w]
                          rfl
                         refine pure_ (i := 8) (N := some 119) (v := ?_) (a' := ?_) #[true, true, true, true, true, true, true, true, true, false, false, false, false, false, false, false, false, false, false, false] rfl rfl (any_of HT_.out (by kernel_rfl)) (fun _ _ _ h => h) (Or.inl ⟨by rfl, ?_⟩) ?_ ?_
                         rotate_left
                         ·intro w'
                          go_simp
                          with_reducible rfl
                         rotate_left
                         ·simp only [Act.put, List.setIfInBounds_toArray, List.set_cons_zero, List.set_cons_succ, i64_w, i32_w]
                          rfl
                         refine pure_ (i := 9) (N := some 120) (v := ?_) (a' := ?_) #[true, true, true, true, true, true, true, true, true, true, false, false, false, false, false, false, false, false, false, false] rfl rfl (any_of HT_.out (by kernel_rfl)) (fun _ _ _ h => h) (Or.inl ⟨by rfl, ?_⟩) ?_ ?_
                         rotate_left
                         ·intro w'
                          go_simp
                          with_reducible rfl
                         rotate_left
                         ·simp only [Act.put, List.setIfInBounds_toArray, List.set_cons_zero, List.set_cons_succ, i64_w, i32_w]
                          rfl
                         refine pure_ (i := 11) (N := some 122) (v := ?_) (a' := ?_) #[true, true, true, true, true, true, true, true, true, true, false, true, false, false, false, false, false, false, false, false] rfl rfl (any_of HT_.out (by kernel_rfl)) (fun _ _ _ h => h) (Or.inl ⟨by rfl, ?_⟩) ?_ ?_
                         rotate_left
                         ·intro w'
                          go_simp
                          with_reducible rfl
                         rotate_left
                         ·simp only [Act.put, List.setIfInBounds_toArray, List.set_cons_zero, List.set_cons_succ, i64_w, i32_w]
                          rfl
                         refine pure_ (i := 12) (N := some 123) (v := ?_) (a' := ?_) #[true, true, true, true, true, true, true, true, true, true, false, true, true, false, false, false, false, false, false, false] rfl rfl (any_of HT_.out (by kernel_rfl)) (fun _ _ _ h => h) (Or.inl ⟨by rfl, ?_⟩) ?_ ?_
                         rotate_left
                         ·intro w'
                          go_simp
                          with_reducible rfl
                         rotate_left
                         ·simp only [Act.put, List.setIfInBounds_toArray, List.set_cons_zero, List.set_cons_succ, i64_w, i32_w]
                          rfl
                         refine pure_ (i := 13) (N := some 124) (v := ?_) (a' := ?_) #[true, true, true, true, true, true, true, true, true, true, false, true, true, true, false, false, false, false, false, false] rfl rfl (any_of HT_.out (by kernel_rfl)) (fun _ _ _ h => h) (Or.inl ⟨by rfl, ?_⟩) ?_ ?_
                         rotate_left
                         ·intro w'
                          go_simp
                          with_reducible rfl
                         rotate_left
                         ·simp only [Act.put, List.setIfInBounds_toArray, List.set_cons_zero, List.set_cons_succ, i64_w, i32_w]
                          rfl
                         refine pure_ (i := 15) (N := some 126) (v := ?_) (a' := ?_) #[true, true, true, true, true, true, true, true, true, true, false, true, true, true, false, true, false, false, false, false] rfl rfl (any_of HT_.out (by kernel_rfl)) (fun _ _ _ h => h) (Or.inl ⟨by rfl, ?_⟩) ?_ ?_
                         rotate_left
                         ·intro w'
                          go_simp
                          with_reducible rfl
                         rotate_left
                         ·simp only [Act.put, List.setIfInBounds_toArray, List.set_cons_zero, List.set_cons_succ, i64_w, i32_w]
                          rfl
                         refine pure_ (i := 16) (N := some 127) (v := ?_) (a' := ?_) #[true, true, true, true, true, true, true, true, true, true, false, true, true, true, false, true, true, false, false, false] rfl rfl (any_of HT_.out (by kernel_rfl)) (fun _ _ _ h => h) (Or.inl ⟨by rfl, ?_⟩) ?_ ?_
                         rotate_left
                         ·intro w'
                          go_simp
                          with_reducible rfl
                         rotate_left
                         ·simp only [Act.put, List.setIfInBounds_toArray, List.set_cons_zero, List.set_cons_succ, i64_w, i32_w]
                          rfl
                         refine take_ (i := 10) (N := some 121) (v := ?_) (a' := ?_) #[true, true, true, true, true, true, true, true, true, true, true, true, true, true, false, true, true, false, false, false] rfl rfl (take_ofW HT_.out HW_.out (by kernel_rfl)) (fun _ _ _ h => h) (Or.inl ⟨by rfl, ?_⟩) hHeld ?_ ?_
                         rotate_left
                         ·rintro w' ⟨s0, s1, s2, s3, s4, s5, s6, s7, s8, s9⟩
                          go_simp
                          with_reducible rfl
                         rotate_left
                         ·simp only [Act.put, List.setIfInBounds_toArray, List.set_cons_zero, List.set_cons_succ, i64_w, i32_w]
                          rfl
                         refine take_ (i := 14) (N := some 125) (v := ?_) (a' := ?_) #[true, true, true, true, true, true, true, true, true, true, true, true, true, true, true, true, true, false, false, false] rfl rfl (take_ofW HT_.out HW_.out (by kernel_rfl)) (fun _ _ _ h => h) (Or.inl ⟨by rfl, ?_⟩) hHeld ?_ ?_
                         rotate_left
                         ·rintro w' ⟨s0, s1, s2, s3, s4, s5, s6, s7, s8, s9⟩
                          go_simp
                          with_reducible rfl
                         rotate_left
                         ·simp only [Act.put, List.setIfInBounds_toArray, List.set_cons_zero, List.set_cons_succ, i64_w, i32_w]
                          rfl
                         refine pure_ (i := 17) (N := some 128) (v := ?_) (a' := ?_) #[true, true, true, true, true, true, true, true, true, true, true, true, true, true, true, true, true, true, false, false] rfl rfl (any_of HT_.out (by kernel_rfl)) (fun _ _ _ h => h) (Or.inl ⟨by rfl, ?_⟩) ?_ ?_
                         rotate_left
                         ·intro w'
                          go_simp
                          with_reducible rfl
                         rotate_left
                         ·simp only [Act.put, List.setIfInBounds_toArray, List.set_cons_zero, List.set_cons_succ, i64_w, i32_w]
                          rfl
                         refine pure_ (i := 18) (N := some 129) (v := ?_) (a' := ?_) #[true, true, true, true, true, true, true, true, true, true, true, true, true, true, true, true, true, true, true, false] rfl rfl (any_of HT_.out (by kernel_rfl)) (fun _ _ _ h => h) (Or.inl ⟨by rfl, ?_⟩) ?_ ?_
                         rotate_left
                         ·intro w'
                          go_simp
                          with_reducible rfl
                         rotate_left
                         ·simp only [Act.put, List.setIfInBounds_toArray, List.set_cons_zero, List.set_cons_succ, i64_w, i32_w]
                          rfl
                         refine pure_ (i := 19) (N := some 130) (v := ?_) (a' := ?_) #[true, true, true, true, true, true, true, true, true, true, true, true, true, true, true, true, true, true, true, true] rfl rfl (any_of HT_.out (by kernel_rfl)) (fun _ _ _ h => h) (Or.inl ⟨by rfl, ?_⟩) ?_ ?_
                         rotate_left
                         ·intro w'
                          go_simp
                          with_reducible rfl
                         rotate_left
                         ·simp only [Act.put, List.setIfInBounds_toArray, List.set_cons_zero, List.set_cons_succ, i64_w, i32_w]
                          rfl
                         refine done_ (done_of HT_.out (by kernel_rfl)) ?_
                         try go_wp2
                         go_roundg k5
                         case measure => have := HJ5.out; have := HJ14.out; have := HJ36.out; have := HJ46.out; have := HK5.out; omega
                         case rel => exact ⟨(wrap64 (x17_5 + 1)), (by first | rfl | (simp; done) | (simp [*]; done)), H', ⟨by have := HJ5.out; have := HJ14.out; have := HJ36.out; have := HJ46.out; have := HK5.out; omega⟩, ⟨by (with_reducible repeat (first | apply Kd.Q_alloc | apply Kd.Q_drewN | apply Kd.Q_drew)); exact Kd.Q_mono HO_12.out (fun _ hk => hk.1)⟩, ⟨by (with_reducible repeat (first | apply Kd.Q_alloc | apply Kd.Q_drewN | apply Kd.Q_drew)); exact HO_13.out⟩, ⟨by (with_reducible repeat (first | apply Kd.R_alloc | apply Kd.R_drewN | apply Kd.R_drew)); exact Kd.R_mono HO_14.out (fun _ hk => hk.1)⟩, ⟨by (with_reducible repeat (first | apply Kd.R_alloc | apply Kd.R_drewN | apply Kd.R_drew)); exact HO_15.out⟩, ⟨by repeat (first | (with_reducible first | exact HB.out | apply below_alloc | apply pw_below_drewN | apply below_drew1 | refine below_set ?_ GE283.out) | exact HB.out)⟩⟩
                        ·rw [if_neg c61] at H
                         have c61b0 : ((rd y278 x17_5) == (wrap64 ((rd t261 x17_5) + (t248.size : Int)))) = false := beq_eq_false_iff_ne.mpr c61
                         have c61b1 : ((rd y278 x17_5) != (wrap64 ((rd t261 x17_5) + (t248.size : Int)))) = true := bne_iff_ne.mpr c61
                         obtain rfl := Option.some.inj H
                         have p282 : 0 ≤ (x17_5 : Int) := of_decide_eq_true (by first | (with_reducible assumption) | assumption)
                         have q282 : x17_5 < (x14_46.length : Int) := of_decide_eq_true (by first | (with_reducible assumption) | assumption)
                         obtain ⟨ad282, e282, hx282_0, hx282_1, hx282_2, hx282_3⟩ := at_T49 (Kd.R_reads' HO_14.out).2.2 x17_5 p282 q282
                         cases e282
                         replace p282 := eq_true p282
                         replace q282 := eq_true q282
                         try go_wp2_with (first | ((with_reducible refine gate_dst (N := 18) rfl ?_); (try (refine gate_guard (by rfl) ?_; dsimp only)); refine box_event ?hg (N := 18) ?hd (cs := #[.int .i64 0, .int .i64 0, .int .i64 0, .string (⟨#[]⟩ : ByteArray)]) (t := 49) ?hr ?_; (case hd => rfl); (case hg => rfl); (case hr => first | (go_simp; done) | (go_simp; rfl)); intro gb283 hg w67 hbox hb; have n0_ := Aside0.mk (Kd.Q_below (Kd.Q_elderB (by (with_reducible repeat (first | apply Kd.Q_alloc | apply Kd.Q_drewN | apply Kd.Q_drew)); exact HO_12.out) gb283 (Nat.le_of_eq hg.symm)) hb); have n1_ := Aside0.mk (Kd.Q_below (by (with_reducible repeat (first | apply Kd.Q_alloc | apply Kd.Q_drewN | apply Kd.Q_drew)); exact HO_13.out) hb); have n2_ := Aside0.mk (Kd.R_below (Kd.R_elderB (by (with_reducible repeat (first | apply Kd.R_alloc | apply Kd.R_drewN | apply Kd.R_drew)); exact HO_14.out) gb283 (Nat.le_of_eq hg.symm)) hb); have n3_ := Aside0.mk (Kd.R_below (by (with_reducible repeat (first | apply Kd.R_alloc | apply Kd.R_drewN | apply Kd.R_drew)); exact HO_15.out) hb); have n4_ := Aside0.mk (below_step (by repeat (first | (with_reducible first | exact HB.out | apply below_alloc | apply pw_below_drewN | apply below_drew1) | exact HB.out)) hb); have n5_ := Aside0.mk (hbox); have n6_ := Aside0.mk ((by rw [hg]; exact (below_size (by repeat (first | (with_reducible first | exact HB.out | apply below_alloc | apply pw_below_drewN | apply below_drew1) | exact HB.out))) : w.heap.size ≤ gb283)); have n7_ := Aside0.mk ((by rw [hg]; exact (below_size (by repeat (first | (with_reducible first | exact HB.out | apply below_alloc | apply pw_below_drewN | apply below_drew1) | exact HB.out))) : w.heap.size ≤ gb283)); clear HO_12; clear HO_13; clear HO_14; clear HO_15; clear HB; have HO_12 := n0_; have HO_13 := n1_; have HO_14 := n2_; have HO_15 := n3_; have HB := n4_; have BK283 := n5_; have GW283 := n6_; have GE283 := n7_; clear n0_ n1_ n2_ n3_ n4_ n5_ n6_ n7_; clear hb hbox hg; have hcz68_0 : w67.cell? ⟨gb283, 0, none⟩ = some (.int .i64 0) := (blk_cell BK283.out 0).trans rfl; have hcz68_1 : w67.cell? ⟨gb283, 1, none⟩ = some (.int .i64 0) := (blk_cell BK283.out 1).trans rfl; have hcz68_2 : w67.cell? ⟨gb283, 2, none⟩ = some (.int .i64 0) := (blk_cell BK283.out 2).trans rfl; have hcz68_3 : w67.cell? ⟨gb283, 3, none⟩ = some (.string (⟨#[]⟩ : ByteArray)) := (blk_cell BK283.out 3).trans rfl; have hfz68_0 := blk_frozen BK283.out 0; have hfz68_1 := blk_frozen BK283.out 1; have hfz68_2 := blk_frozen BK283.out 2; have hfz68_3 := blk_frozen BK283.out 3))
                         have n0_ : Aside0 (Kd.Q k49 49 (((((w67.setCell ⟨gb283, 0, none⟩ (.int .i64 ((rd_T49 x14_46 x17_5).f0))).setCell ⟨gb283, 1, none⟩ (.int .i64 ((rd_T49 x14_46 x17_5).f1))).setCell ⟨gb283, 2, none⟩ (.int .i64 ((rd_T49 x14_46 x17_5).f2))).setCell ⟨gb283, 3, none⟩ (.string ((rd_T49 x14_46 x17_5).f3))).setCell ⟨gb283, 2, none⟩ (.int .i64 (wrap64 (((rd_T49 x14_46 x17_5).f2) + (t248.size : Int))))) w.heap.size (fun k_ => some k_ ≠ (.slice (some ad282) x14_46.length co50 : Value).ownBlock ∧ k_ ≠ gb283) (.slice A39 y275.length c39) y275) := ⟨by (with_reducible repeat (first | apply Kd.Q_alloc | apply Kd.Q_drewN | apply Kd.Q_drew)); exact Kd.Q_mono (Kd.Q_far (p := ⟨gb283, 2, none⟩) (Kd.Q_far (p := ⟨gb283, 3, none⟩) (Kd.Q_far (p := ⟨gb283, 2, none⟩) (Kd.Q_far (p := ⟨gb283, 1, none⟩) (Kd.Q_far (p := ⟨gb283, 0, none⟩) (Kd.Q_mono HO_12.out (fun k_ hk => (⟨hk, hk.2⟩ : _ ∧ k_ ≠ gb283))) (fun _ hk => hk.2) (.int .i64 ((rd_T49 x14_46 x17_5).f0))) (fun _ hk => hk.2) (.int .i64 ((rd_T49 x14_46 x17_5).f1))) (fun _ hk => hk.2) (.int .i64 ((rd_T49 x14_46 x17_5).f2))) (fun _ hk => hk.2) (.string ((rd_T49 x14_46 x17_5).f3))) (fun _ hk => hk.2) (.int .i64 (wrap64 (((rd_T49 x14_46 x17_5).f2) + (t248.size : Int))))) (fun _ hk => ⟨hk.1.1, hk.1.2⟩)⟩
                         have n1_ : Aside0 (Kd.Q (Kd.int .i64) 3 (((((w67.setCell ⟨gb283, 0, none⟩ (.int .i64 ((rd_T49 x14_46 x17_5).f0))).setCell ⟨gb283, 1, none⟩ (.int .i64 ((rd_T49 x14_46 x17_5).f1))).setCell ⟨gb283, 2, none⟩ (.int .i64 ((rd_T49 x14_46 x17_5).f2))).setCell ⟨gb283, 3, none⟩ (.string ((rd_T49 x14_46 x17_5).f3))).setCell ⟨gb283, 2, none⟩ (.int .i64 (wrap64 (((rd_T49 x14_46 x17_5).f2) + (t248.size : Int))))) w.heap.size (fun k_ => some k_ ≠ (v264 : Value).ownBlock) (.slice A41 y278.length c41) y278) := ⟨by (with_reducible repeat (first | apply Kd.Q_alloc | apply Kd.Q_drewN | apply Kd.Q_drew)); exact Kd.Q_mono (Kd.Q_far (p := ⟨gb283, 2, none⟩) (Kd.Q_far (p := ⟨gb283, 3, none⟩) (Kd.Q_far (p := ⟨gb283, 2, none⟩) (Kd.Q_far (p := ⟨gb283, 1, none⟩) (Kd.Q_far (p := ⟨gb283, 0, none⟩) (Kd.Q_types HO_13.out BK283.out (by decide)) (fun _ hk => hk.2) (.int .i64 ((rd_T49 x14_46 x17_5).f0))) (fun _ hk => hk.2) (.int .i64 ((rd_T49 x14_46 x17_5).f1))) (fun _ hk => hk.2) (.int .i64 ((rd_T49 x14_46 x17_5).f2))) (fun _ hk => hk.2) (.string ((rd_T49 x14_46 x17_5).f3))) (fun _ hk => hk.2) (.int .i64 (wrap64 (((rd_T49 x14_46 x17_5).f2) + (t248.size : Int))))) (fun _ hk => hk.1)⟩
                         have n2_ : Aside0 (Kd.R k49 49 (((((w67.setCell ⟨gb283, 0, none⟩ (.int .i64 ((rd_T49 x14_46 x17_5).f0))).setCell ⟨gb283, 1, none⟩ (.int .i64 ((rd_T49 x14_46 x17_5).f1))).setCell ⟨gb283, 2, none⟩ (.int .i64 ((rd_T49 x14_46 x17_5).f2))).setCell ⟨gb283, 3, none⟩ (.string ((rd_T49 x14_46 x17_5).f3))).setCell ⟨gb283, 2, none⟩ (.int .i64 (wrap64 (((rd_T49 x14_46 x17_5).f2) + (t248.size : Int))))) w.heap.size (fun k_ => some k_ ≠ (.slice A39 y275.length c39 : Value).ownBlock ∧ k_ ≠ gb283) (.slice (some ad282) x14_46.length co50) x14_46) := ⟨by (with_reducible repeat (first | apply Kd.R_alloc | apply Kd.R_drewN | apply Kd.R_drew)); exact Kd.R_mono (Kd.R_far (p := ⟨gb283, 2, none⟩) (Kd.R_far (p := ⟨gb283, 3, none⟩) (Kd.R_far (p := ⟨gb283, 2, none⟩) (Kd.R_far (p := ⟨gb283, 1, none⟩) (Kd.R_far (p := ⟨gb283, 0, none⟩) (Kd.R_mono HO_14.out (fun k_ hk => (⟨hk, hk.2⟩ : _ ∧ k_ ≠ gb283))) (fun _ hk => hk.2) (.int .i64 ((rd_T49 x14_46 x17_5).f0))) (fun _ hk => hk.2) (.int .i64 ((rd_T49 x14_46 x17_5).f1))) (fun _ hk => hk.2) (.int .i64 ((rd_T49 x14_46 x17_5).f2))) (fun _ hk => hk.2) (.string ((rd_T49 x14_46 x17_5).f3))) (fun _ hk => hk.2) (.int .i64 (wrap64 (((rd_T49 x14_46 x17_5).f2) + (t248.size : Int))))) (fun _ hk => ⟨hk.1.1, hk.1.2⟩)⟩
                         have n3_ : Aside0 (Kd.R (Kd.int .i64) 3 (((((w67.setCell ⟨gb283, 0, none⟩ (.int .i64 ((rd_T49 x14_46 x17_5).f0))).setCell ⟨gb283, 1, none⟩ (.int .i64 ((rd_T49 x14_46 x17_5).f1))).setCell ⟨gb283, 2, none⟩ (.int .i64 ((rd_T49 x14_46 x17_5).f2))).setCell ⟨gb283, 3, none⟩ (.string ((rd_T49 x14_46 x17_5).f3))).setCell ⟨gb283, 2, none⟩ (.int .i64 (wrap64 (((rd_T49 x14_46 x17_5).f2) + (t248.size : Int))))) w.heap.size (fun k_ => some k_ ≠ (.slice A41 y278.length c41 : Value).ownBlock) v264 t261) := ⟨by (with_reducible repeat (first | apply Kd.R_alloc | apply Kd.R_drewN | apply Kd.R_drew)); exact Kd.R_mono (Kd.R_far (p := ⟨gb283, 2, none⟩) (Kd.R_far (p := ⟨gb283, 3, none⟩) (Kd.R_far (p := ⟨gb283, 2, none⟩) (Kd.R_far (p := ⟨gb283, 1, none⟩) (Kd.R_far (p := ⟨gb283, 0, none⟩) (Kd.R_types HO_15.out BK283.out (by decide)) (fun _ hk => hk.2) (.int .i64 ((rd_T49 x14_46 x17_5).f0))) (fun _ hk => hk.2) (.int .i64 ((rd_T49 x14_46 x17_5).f1))) (fun _ hk => hk.2) (.int .i64 ((rd_T49 x14_46 x17_5).f2))) (fun _ hk => hk.2) (.string ((rd_T49 x14_46 x17_5).f3))) (fun _ hk => hk.2) (.int .i64 (wrap64 (((rd_T49 x14_46 x17_5).f2) + (t248.size : Int))))) (fun _ hk => hk.1)⟩
                         have n4_ : Aside0 ((((((w67.setCell ⟨gb283, 0, none⟩ (.int .i64 ((rd_T49 x14_46 x17_5).f0))).setCell ⟨gb283, 1, none⟩ (.int .i64 ((rd_T49 x14_46 x17_5).f1))).setCell ⟨gb283, 2, none⟩ (.int .i64 ((rd_T49 x14_46 x17_5).f2))).setCell ⟨gb283, 3, none⟩ (.string ((rd_T49 x14_46 x17_5).f3))).setCell ⟨gb283, 2, none⟩ (.int .i64 (wrap64 (((rd_T49 x14_46 x17_5).f2) + (t248.size : Int))))).heap[gb283]? = some (.cells #[.int .i64 ((rd_T49 x14_46 x17_5).f0), .int .i64 ((rd_T49 x14_46 x17_5).f1), .int .i64 (wrap64 (((rd_T49 x14_46 x17_5).f2) + (t248.size : Int))), .string ((rd_T49 x14_46 x17_5).f3)] 49 (0, 0))) := ⟨by (with_reducible repeat (first | refine blk_drewN ?_ _ | refine blk_drew ?_ | refine blk_alloc ?_ _)); refine blk_put (cs := #[.int .i64 ((rd_T49 x14_46 x17_5).f0), .int .i64 ((rd_T49 x14_46 x17_5).f1), .int .i64 ((rd_T49 x14_46 x17_5).f2), .string ((rd_T49 x14_46 x17_5).f3)]) ?_ 2 _ rfl; (with_reducible repeat (first | refine blk_drewN ?_ _ | refine blk_drew ?_ | refine blk_alloc ?_ _)); refine blk_put (cs := #[.int .i64 ((rd_T49 x14_46 x17_5).f0), .int .i64 ((rd_T49 x14_46 x17_5).f1), .int .i64 ((rd_T49 x14_46 x17_5).f2), .string (⟨#[]⟩ : ByteArray)]) ?_ 3 _ rfl; (with_reducible repeat (first | refine blk_drewN ?_ _ | refine blk_drew ?_ | refine blk_alloc ?_ _)); refine blk_put (cs := #[.int .i64 ((rd_T49 x14_46 x17_5).f0), .int .i64 ((rd_T49 x14_46 x17_5).f1), .int .i64 0, .string (⟨#[]⟩ : ByteArray)]) ?_ 2 _ rfl; (with_reducible repeat (first | refine blk_drewN ?_ _ | refine blk_drew ?_ | refine blk_alloc ?_ _)); refine blk_put (cs := #[.int .i64 ((rd_T49 x14_46 x17_5).f0), .int .i64 0, .int .i64 0, .string (⟨#[]⟩ : ByteArray)]) ?_ 1 _ rfl; (with_reducible repeat (first | refine blk_drewN ?_ _ | refine blk_drew ?_ | refine blk_alloc ?_ _)); refine blk_put (cs := #[.int .i64 0, .int .i64 0, .int .i64 0, .string (⟨#[]⟩ : ByteArray)]) ?_ 0 _ rfl; (with_reducible repeat (first | refine blk_drewN ?_ _ | refine blk_drew ?_ | refine blk_alloc ?_ _)); exact BK283.out⟩
                         have n5_ : Aside0 (Below w.heap.size w (((((w67.setCell ⟨gb283, 0, none⟩ (.int .i64 ((rd_T49 x14_46 x17_5).f0))).setCell ⟨gb283, 1, none⟩ (.int .i64 ((rd_T49 x14_46 x17_5).f1))).setCell ⟨gb283, 2, none⟩ (.int .i64 ((rd_T49 x14_46 x17_5).f2))).setCell ⟨gb283, 3, none⟩ (.string ((rd_T49 x14_46 x17_5).f3))).setCell ⟨gb283, 2, none⟩ (.int .i64 (wrap64 (((rd_T49 x14_46 x17_5).f2) + (t248.size : Int)))))) := ⟨by repeat (first | (with_reducible first | exact HB.out | apply below_alloc | apply pw_below_drewN | apply below_drew1 | refine below_set ?_ GE283.out) | exact HB.out)⟩
                         (try clear HO_12)
                         (try clear HO_13)
                         (try clear HO_14)
                         (try clear HO_15)
                         (try clear BK283)
                         (try clear HB)
                         generalize (((((w67.setCell ⟨gb283, 0, none⟩ (.int .i64 ((rd_T49 x14_46 x17_5).f0))).setCell ⟨gb283, 1, none⟩ (.int .i64 ((rd_T49 x14_46 x17_5).f1))).setCell ⟨gb283, 2, none⟩ (.int .i64 ((rd_T49 x14_46 x17_5).f2))).setCell ⟨gb283, 3, none⟩ (.string ((rd_T49 x14_46 x17_5).f3))).setCell ⟨gb283, 2, none⟩ (.int .i64 (wrap64 (((rd_T49 x14_46 x17_5).f2) + (t248.size : Int))))) = w69 at n0_ n1_ n2_ n3_ n4_ n5_ ⊢
                         have HO_12 := n0_
                         have HO_13 := n1_
                         have HO_14 := n2_
                         have HO_15 := n3_
                         have BK283 := n4_
                         have HB := n5_
                         clear n0_ n1_ n2_ n3_ n4_ n5_
                         have n0_ := Aside0.mk (Kd.Q_drew HO_12.out)
                         have n1_ := Aside0.mk (Kd.Q_drew HO_13.out)
                         have n2_ := Aside0.mk (Kd.R_drew HO_14.out)
                         have n3_ := Aside0.mk (Kd.R_drew HO_15.out)
                         have n4_ := Aside0.mk (blk_drew BK283.out)
                         have n5_ := Aside0.mk (below_drew1 HB.out)
                         clear HO_12
                         clear HO_13
                         clear HO_14
                         clear HO_15
                         clear BK283
                         clear HB
                         have HO_12 := n0_
                         have HO_13 := n1_
                         have HO_14 := n2_
                         have HO_15 := n3_
                         have BK283 := n4_
                         have HB := n5_
                         clear n0_ n1_ n2_ n3_ n4_ n5_
                         have p284 : 0 ≤ (x17_5 : Int) := of_decide_eq_true (by first | (with_reducible assumption) | assumption)
                         have q284 : x17_5 < (y275.length : Int) := of_decide_eq_true (by first | (with_reducible assumption) | assumption)
                         obtain ⟨ad284, e284, hx284_0, hx284_1, hx284_2, hx284_3⟩ := at_T49 (Kd.Q_reads' HO_12.out).2.2 x17_5 p284 q284
                         cases e284
                         replace p284 := eq_true p284
                         replace q284 := eq_true q284
                         have p285 : 0 ≤ (x17_5 : Int) := of_decide_eq_true (by first | (with_reducible assumption) | assumption)
                         have q285 : x17_5 < (y278.length : Int) := of_decide_eq_true (by first | (with_reducible assumption) | assumption)
                         obtain ⟨ad285, e285, hx285_0⟩ := Kd.at_int (Kd.Q_reads' HO_13.out).2.2 x17_5 p285 q285
                         cases e285
                         replace p285 := eq_true p285
                         replace q285 := eq_true q285
                         obtain ⟨Ao71, co71, eo71⟩ := Kd.R_slice HO_15.out
                         (first | subst eo71 | (injection eo71 with f1_ f2_ f3_; have f4_ := f1_.symm; have f5_ := f3_.symm; clear f1_ f2_ f3_; subst f4_; subst f5_))
                         have p286 : 0 ≤ (x17_5 : Int) := of_decide_eq_true (by first | (with_reducible assumption) | assumption)
                         have q286 : x17_5 < (t261.length : Int) := of_decide_eq_true (by first | (with_reducible assumption) | assumption)
                         obtain ⟨ad286, e286, hx286_0⟩ := Kd.at_int (Kd.R_reads' HO_15.out).2.2 x17_5 p286 q286
                         cases e286
                         replace p286 := eq_true p286
                         replace q286 := eq_true q286
                         refine start_ (n := 20) (S := fun w' => w'.cell? ⟨gb283, 0, none⟩ = some (.int .i64 ((rd_T49 x14_46 x17_5).f0)) ∧ w'.cell? ⟨gb283, 1, none⟩ = some (.int .i64 ((rd_T49 x14_46 x17_5).f1)) ∧ w'.cell? ⟨gb283, 2, none⟩ = some (.int .i64 (wrap64 (((rd_T49 x14_46 x17_5).f2) + (t248.size : Int)))) ∧ w'.cell? ⟨gb283, 3, none⟩ = some (.string ((rd_T49 x14_46 x17_5).f3)) ∧ w'.cell? (ad284.add ((x17_5).toNat * 4)) = some (.int .i64 ((rd_T49 y275 x17_5).f0)) ∧ w'.cell? ⟨(ad284.add ((x17_5).toNat * 4)).block, (ad284.add ((x17_5).toNat * 4)).off + 1, none⟩ = some (.int .i64 ((rd_T49 y275 x17_5).f1)) ∧ w'.cell? ⟨(ad284.add ((x17_5).toNat * 4)).block, (ad284.add ((x17_5).toNat * 4)).off + 2, none⟩ = some (.int .i64 ((rd_T49 y275 x17_5).f2)) ∧ w'.cell? ⟨(ad284.add ((x17_5).toNat * 4)).block, (ad284.add ((x17_5).toNat * 4)).off + 3, none⟩ = some (.string ((rd_T49 y275 x17_5).f3)) ∧ w'.cell? (ad285.add (x17_5).toNat) = some (.int .i64 (rd y278 x17_5)) ∧ w'.cell? (ad286.add (x17_5).toNat) = some (.int .i64 (rd t261 x17_5))) (ds := []) #[false, false, false, false, false, false, false, false, false, false, false, false, false, false, false, false, false, false, false, false] (by kernel_rfl) rfl rfl ⟨(blk_cell BK283.out 0).trans rfl, (blk_cell BK283.out 1).trans rfl, (blk_cell BK283.out 2).trans rfl, (blk_cell BK283.out 3).trans rfl, hx284_0, hx284_1, hx284_2, hx284_3, hx285_0, hx286_0⟩ (fun hHeld => ?_); refine with_tabW postbaglaw10_FrameTail.tab20 postbaglaw10_FrameTail.bits20 (fun HT_ HW_ => ?_)
                         generalize w69.drew = w70 at HO_12 HO_13 HO_14 HO_15 BK283 HB hx284_0 hx284_1 hx284_2 hx284_3 hx285_0 hx286_0 hHeld ⊢
                         refine pure_ (i := 0) (N := some 111) (v := ?_) (a' := ?_) #[true, false, false, false, false, false, false, false, false, false, false, false, false, false, false, false, false, false, false, false] rfl rfl (any_of HT_.out (by kernel_rfl)) (fun _ _ _ h => h) (Or.inl ⟨by rfl, ?_⟩) ?_ ?_
                         rotate_left
                         ·intro w'
                          go_simp
                          with_reducible rfl
                         rotate_left
                         ·simp only [Act.put, List.setIfInBounds_toArray, List.set_cons_zero, List.set_cons_succ, i64_w, i32_w]
                          rfl
                         refine pure_ (i := 1) (N := some 112) (v := ?_) (a' := ?_) #[true, true, false, false, false, false, false, false, false, false, false, false, false, false, false, false, false, false, false, false] rfl rfl (any_of HT_.out (by kernel_rfl)) (fun _ _ _ h => h) (Or.inl ⟨by rfl, ?_⟩) ?_ ?_
                         rotate_left
                         ·intro w'
                          go_simp
                          with_reducible rfl
                         rotate_left
                         ·simp only [Act.put, List.setIfInBounds_toArray, List.set_cons_zero, List.set_cons_succ, i64_w, i32_w]
                          rfl
                         refine pure_ (i := 2) (N := some 113) (v := ?_) (a' := ?_) #[true, true, true, false, false, false, false, false, false, false, false, false, false, false, false, false, false, false, false, false] rfl rfl (any_of HT_.out (by kernel_rfl)) (fun _ _ _ h => h) (Or.inl ⟨by rfl, ?_⟩) ?_ ?_
                         rotate_left
                         ·intro w'
                          go_simp
                          with_reducible rfl
                         rotate_left
                         ·simp only [Act.put, List.setIfInBounds_toArray, List.set_cons_zero, List.set_cons_succ, i64_w, i32_w]
                          rfl
                         refine take_ (i := 3) (N := some 114) (v := ?_) (a' := ?_) #[true, true, true, true, false, false, false, false, false, false, false, false, false, false, false, false, false, false, false, false] rfl rfl (take_ofW HT_.out HW_.out (by kernel_rfl)) (fun _ _ _ h => h) (Or.inl ⟨by rfl, ?_⟩) hHeld ?_ ?_
                         rotate_left
                         ·rintro w' ⟨s0, s1, s2, s3, s4, s5, s6, s7, s8, s9⟩
                          go_simp
                          with_reducible rfl
                         rotate_left
                         ·simp only [Act.put, List.setIfInBounds_toArray, List.set_cons_zero, List.set_cons_succ, i64_w, i32_w]
                          rfl
                         refine take_ (i := 4) (N := some 115) (v := ?_) (a' := ?_) #[true, true, true, true, true, false, false, false, false, false, false, false, false, false, false, false, false, false, false, false] rfl rfl (take_ofW HT_.out HW_.out (by kernel_rfl)) (fun _ _ _ h => h) (Or.inl ⟨by rfl, ?_⟩) hHeld ?_ ?_
                         rotate_left
                         ·rintro w' ⟨s0, s1, s2, s3, s4, s5, s6, s7, s8, s9⟩
                          go_simp
                          with_reducible rfl
                         rotate_left
                         ·simp only [Act.put, List.setIfInBounds_toArray, List.set_cons_zero, List.set_cons_succ, i64_w, i32_w]
                          rfl
                         refine pure_ (i := 5) (N := some 116) (v := ?_) (a' := ?_) #[true, true, true, true, true, true, false, false, false, false, false, false, false, false, false, false, false, false, false, false] rfl rfl (any_of HT_.out (by kernel_rfl)) (fun _ _ _ h => h) (Or.inl ⟨by rfl, ?_⟩) ?_ ?_
                         rotate_left
                         ·intro w'
                          go_simp
                          with_reducible rfl
                         rotate_left
                         ·simp only [Act.put, List.setIfInBounds_toArray, List.set_cons_zero, List.set_cons_succ, i64_w, i32_w]
                          rfl
                         refine pure_ (i := 6) (N := some 117) (v := ?_) (a' := ?_) #[true, true, true, true, true, true, true, false, false, false, false, false, false, false, false, false, false, false, false, false] rfl rfl (any_of HT_.out (by kernel_rfl)) (fun _ _ _ h => h) (Or.inl ⟨by rfl, ?_⟩) ?_ ?_
                         rotate_left
                         ·intro w'
                          go_simp
                          with_reducible rfl
                         rotate_left
                         ·simp only [Act.put, List.setIfInBounds_toArray, List.set_cons_zero, List.set_cons_succ, i64_w, i32_w]
                          rfl
                         refine pure_ (i := 7) (N := some 118) (v := ?_) (a' := ?_) #[true, true, true, true, true, true, true, true, false, false, false, false, false, false, false, false, false, false, false, false] rfl rfl (any_of HT_.out (by kernel_rfl)) (fun _ _ _ h => h) (Or.inl ⟨by rfl, ?_⟩) ?_ ?_
                         rotate_left
                         ·intro w'
                          go_simp
                          with_reducible rfl
                         rotate_left
                         ·simp only [Act.put, List.setIfInBounds_toArray, List.set_cons_zero, List.set_cons_succ, i64_w, i32_w]
                          rfl
                         refine pure_ (i := 8) (N := some 119) (v := ?_) (a' := ?_) #[true, true, true, true, true, true, true, true, true, false, false, false, false, false, false, false, false, false, false, false] rfl rfl (any_of HT_.out (by kernel_rfl)) (fun _ _ _ h => h) (Or.inl ⟨by rfl, ?_⟩) ?_ ?_
                         rotate_left
                         ·intro w'
                          go_simp
                          with_reducible rfl
                         rotate_left
                         ·simp only [Act.put, List.setIfInBounds_toArray, List.set_cons_zero, List.set_cons_succ, i64_w, i32_w]
                          rfl
                         refine pure_ (i := 9) (N := some 120) (v := ?_) (a' := ?_) #[true, true, true, true, true, true, true, true, true, true, false, false, false, false, false, false, false, false, false, false] rfl rfl (any_of HT_.out (by kernel_rfl)) (fun _ _ _ h => h) (Or.inl ⟨by rfl, ?_⟩) ?_ ?_
                         rotate_left
                         ·intro w'
                          go_simp
                          with_reducible rfl
                         rotate_left
                         ·simp only [Act.put, List.setIfInBounds_toArray, List.set_cons_zero, List.set_cons_succ, i64_w, i32_w]
                          rfl
                         refine pure_ (i := 11) (N := some 122) (v := ?_) (a' := ?_) #[true, true, true, true, true, true, true, true, true, true, false, true, false, false, false, false, false, false, false, false] rfl rfl (any_of HT_.out (by kernel_rfl)) (fun _ _ _ h => h) (Or.inl ⟨by rfl, ?_⟩) ?_ ?_
                         rotate_left
                         ·intro w'
                          go_simp
                          with_reducible rfl
                         rotate_left
                         ·simp only [Act.put, List.setIfInBounds_toArray, List.set_cons_zero, List.set_cons_succ, i64_w, i32_w]
                          rfl
                         refine pure_ (i := 12) (N := some 123) (v := ?_) (a' := ?_) #[true, true, true, true, true, true, true, true, true, true, false, true, true, false, false, false, false, false, false, false] rfl rfl (any_of HT_.out (by kernel_rfl)) (fun _ _ _ h => h) (Or.inl ⟨by rfl, ?_⟩) ?_ ?_
                         rotate_left
                         ·intro w'
                          go_simp
                          with_reducible rfl
                         rotate_left
                         ·simp only [Act.put, List.setIfInBounds_toArray, List.set_cons_zero, List.set_cons_succ, i64_w, i32_w]
                          rfl
                         refine pure_ (i := 13) (N := some 124) (v := ?_) (a' := ?_) #[true, true, true, true, true, true, true, true, true, true, false, true, true, true, false, false, false, false, false, false] rfl rfl (any_of HT_.out (by kernel_rfl)) (fun _ _ _ h => h) (Or.inl ⟨by rfl, ?_⟩) ?_ ?_
                         rotate_left
                         ·intro w'
                          go_simp
                          with_reducible rfl
                         rotate_left
                         ·simp only [Act.put, List.setIfInBounds_toArray, List.set_cons_zero, List.set_cons_succ, i64_w, i32_w]
                          rfl
                         refine pure_ (i := 15) (N := some 126) (v := ?_) (a' := ?_) #[true, true, true, true, true, true, true, true, true, true, false, true, true, true, false, true, false, false, false, false] rfl rfl (any_of HT_.out (by kernel_rfl)) (fun _ _ _ h => h) (Or.inl ⟨by rfl, ?_⟩) ?_ ?_
                         rotate_left
                         ·intro w'
                          go_simp
                          with_reducible rfl
                         rotate_left
                         ·simp only [Act.put, List.setIfInBounds_toArray, List.set_cons_zero, List.set_cons_succ, i64_w, i32_w]
                          rfl
                         refine pure_ (i := 16) (N := some 127) (v := ?_) (a' := ?_) #[true, true, true, true, true, true, true, true, true, true, false, true, true, true, false, true, true, false, false, false] rfl rfl (any_of HT_.out (by kernel_rfl)) (fun _ _ _ h => h) (Or.inl ⟨by rfl, ?_⟩) ?_ ?_
                         rotate_left
                         ·intro w'
                          go_simp
                          with_reducible rfl
                         rotate_left
                         ·simp only [Act.put, List.setIfInBounds_toArray, List.set_cons_zero, List.set_cons_succ, i64_w, i32_w]
                          rfl
                         refine take_ (i := 10) (N := some 121) (v := ?_) (a' := ?_) #[true, true, true, true, true, true, true, true, true, true, true, true, true, true, false, true, true, false, false, false] rfl rfl (take_ofW HT_.out HW_.out (by kernel_rfl)) (fun _ _ _ h => h) (Or.inl ⟨by rfl, ?_⟩) hHeld ?_ ?_
                         rotate_left
                         ·rintro w' ⟨s0, s1, s2, s3, s4, s5, s6, s7, s8, s9⟩
                          go_simp
                          with_reducible rfl
                         rotate_left
                         ·simp only [Act.put, List.setIfInBounds_toArray, List.set_cons_zero, List.set_cons_succ, i64_w, i32_w]
                          rfl
                         refine take_ (i := 14) (N := some 125) (v := ?_) (a' := ?_) #[true, true, true, true, true, true, true, true, true, true, true, true, true, true, true, true, true, false, false, false] rfl rfl (take_ofW HT_.out HW_.out (by kernel_rfl)) (fun _ _ _ h => h) (Or.inl ⟨by rfl, ?_⟩) hHeld ?_ ?_
                         rotate_left
                         ·rintro w' ⟨s0, s1, s2, s3, s4, s5, s6, s7, s8, s9⟩
                          go_simp
                          with_reducible rfl
                         rotate_left
                         ·simp only [Act.put, List.setIfInBounds_toArray, List.set_cons_zero, List.set_cons_succ, i64_w, i32_w]
                          rfl
                         refine pure_ (i := 17) (N := some 128) (v := ?_) (a' := ?_) #[true, true, true, true, true, true, true, true, true, true, true, true, true, true, true, true, true, true, false, false] rfl rfl (any_of HT_.out (by kernel_rfl)) (fun _ _ _ h => h) (Or.inl ⟨by rfl, ?_⟩) ?_ ?_
                         rotate_left
                         ·intro w'
                          go_simp
                          with_reducible rfl
                         rotate_left
                         ·simp only [Act.put, List.setIfInBounds_toArray, List.set_cons_zero, List.set_cons_succ, i64_w, i32_w]
                          rfl
                         refine pure_ (i := 18) (N := some 129) (v := ?_) (a' := ?_) #[true, true, true, true, true, true, true, true, true, true, true, true, true, true, true, true, true, true, true, false] rfl rfl (any_of HT_.out (by kernel_rfl)) (fun _ _ _ h => h) (Or.inl ⟨by rfl, ?_⟩) ?_ ?_
                         rotate_left
                         ·intro w'
                          go_simp
                          with_reducible rfl
                         rotate_left
                         ·simp only [Act.put, List.setIfInBounds_toArray, List.set_cons_zero, List.set_cons_succ, i64_w, i32_w]
                          rfl
                         refine pure_ (i := 19) (N := some 130) (v := ?_) (a' := ?_) #[true, true, true, true, true, true, true, true, true, true, true, true, true, true, true, true, true, true, true, true] rfl rfl (any_of HT_.out (by kernel_rfl)) (fun _ _ _ h => h) (Or.inl ⟨by rfl, ?_⟩) ?_ ?_
                         rotate_left
                         ·intro w'
                          go_simp
                          with_reducible rfl
                         rotate_left
                         ·simp only [Act.put, List.setIfInBounds_toArray, List.set_cons_zero, List.set_cons_succ, i64_w, i32_w]
                          rfl
                         refine done_ (done_of HT_.out (by kernel_rfl)) ?_
                         try go_wp2
                         go_ret
                         exact ⟨by first | rfl | (simp [errW_none, errW_some] <;> rfl) | (simp [*, errW_none, errW_some] <;> rfl), by repeat (first | (with_reducible first | exact HB.out | apply below_alloc | apply pw_below_drewN | apply below_drew1 | refine below_set ?_ GE283.out) | exact HB.out)⟩
                       ·rw [if_neg c60] at H
                        exact absurd H (by simp)
                      ·rw [if_neg c59] at H
                       exact absurd H (by simp)
                    ·rw [if_neg c53] at H
                     exact absurd H (by simp)
                   ·rw [if_neg c52] at H
                    exact absurd H (by simp)
                  ·rw [if_neg c51] at H
                   have c51b0 : decide (x17_5 < (y275.length : Int)) = false := decide_eq_false c51
                   clear c51
                   replace H := Option.bind_eq_some_iff.mp H
                   obtain ⟨t287, A720, H⟩ := H
                   replace H : (some t287) = some r := H
                   have A72 := Aside0.mk A720
                   clear A720
                   obtain rfl := Option.some.inj H
                   go_wp2_with (first | ((with_reducible refine gate_callee (f := 14) rfl ?_); refine goesL_ (some 131) rfl rfl Try.func14 (by kernel_rfl) rfl #[] rfl (by (try simp only [List.map_toArray, List.map_cons, List.map_nil]); first | done | rfl | (simp only [List.length_drop, List.length_take]; rfl)) ?_; (with_reducible refine (postbaglaw10_known.calls  t287 _ A72.out).mono ?_); rintro e w73 ⟨rfl, hb⟩; refine ⟨_, rfl, ?_⟩; have n0_ := Aside0.mk (Kd.Q_below (by (with_reducible repeat (first | apply Kd.Q_alloc | apply Kd.Q_drewN | apply Kd.Q_drew)); exact HO_12.out) hb); have n1_ := Aside0.mk (Kd.Q_below (by (with_reducible repeat (first | apply Kd.Q_alloc | apply Kd.Q_drewN | apply Kd.Q_drew)); exact HO_13.out) hb); have n2_ := Aside0.mk (Kd.R_below (by (with_reducible repeat (first | apply Kd.R_alloc | apply Kd.R_drewN | apply Kd.R_drew)); exact HO_14.out) hb); have n3_ := Aside0.mk (Kd.R_below (by (with_reducible repeat (first | apply Kd.R_alloc | apply Kd.R_drewN | apply Kd.R_drew)); exact HO_15.out) hb); have n4_ := Aside0.mk (below_step (by repeat (first | (with_reducible first | exact HB.out | apply below_alloc | apply pw_below_drewN | apply below_drew1) | exact HB.out)) hb); clear HO_12; clear HO_13; clear HO_14; clear HO_15; clear HB; have HO_12 := n0_; have HO_13 := n1_; have HO_14 := n2_; have HO_15 := n3_; have HB := n4_; clear n0_ n1_ n2_ n3_ n4_; (try clear hb); (try clear hb2); (try clear hk); (try clear hi)))
                   go_ret
                   exact ⟨by first | rfl | (simp [errW_none, errW_some] <;> rfl) | (simp [*, errW_none, errW_some] <;> rfl), by repeat (first | (with_reducible first | exact HB.out | apply below_alloc | apply pw_below_drewN | apply below_drew1) | exact HB.out)⟩
               ·rw [if_neg c49] at H
                have c49b0 : ((y275.length : Int) == (x14_46.length : Int)) = false := beq_eq_false_iff_ne.mpr c49
                have c49b1 : ((y275.length : Int) != (x14_46.length : Int)) = true := bne_iff_ne.mpr c49
                have c49b2 : (y275.length == x14_46.length) = false := by first | simpa using c49 | (simp at c49 ⊢; omega)
                obtain rfl := Option.some.inj H
                obtain ⟨Ao74, co74, eo74⟩ := Kd.R_slice HO_14.out
                subst eo74
                go_wp2
                go_ret
                exact ⟨by first | rfl | (simp [errW_none, errW_some] <;> rfl) | (simp [*, errW_none, errW_some] <;> rfl), by repeat (first | (with_reducible first | exact HB.out | apply below_alloc | apply pw_below_drewN | apply below_drew1) | exact HB.out)⟩
          ·rw [if_neg c36] at H
           exact absurd H (by simp)
         ·rw [if_neg c35] at H
          exact absurd H (by simp)
        ·rw [if_neg c34] at H
         exact absurd H (by simp)
    ·rw [if_neg c12] at H
     exact absurd H (by simp)

end Go.Proofs.Ytcndhgpaoihblaa.Fr
