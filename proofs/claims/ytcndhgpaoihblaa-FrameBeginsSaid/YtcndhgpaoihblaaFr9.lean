/- Printed by wip/myprint.py of this session over the kit's print.py: contracts of Go functions (each: what a plain Lean function says, the call does). -/
import Derived.Test.YtcndhgpaoihblaaFr0
import Derived.Test.YtcndhgpaoihblaaFrX
import Derived.Test.YtcndhgpaoihblaaFr3
namespace Go.Proofs.Ytcndhgpaoihblaa.Fr
open Go.RowKit Go.Proofs.YtcndhgpaoihblaaW.PrintWords Go.Proofs.YtcndhgpaoihblaaW.PrintLast Go.Proofs.YtcndhgpaoihblaaW.PrintMore
attribute [local go_sem] max2_int min2_int max_two min_two max_three min_three max_four min_four   -- for this text's walks alone
set_option linter.unusedVariables false
set_option linter.unusedSimpArgs false

/-! ### postbaglaw10_whole: function 27 -/
mutual
def postbaglaw10_whole.j0 : Nat → List (S49) → List Int → Int → List ByteArray → List Int → Int → Bool → Option (Bool)
 | 0, _, _, _, _, _, _, _ => none
 | k + 1, x0, x1, x2, x3, x4, x5, x24 => if x24 = true then (some false) else (postbaglaw10_whole.l0 k x0 x1 x2 x3 x4 x5 0 0)
def postbaglaw10_whole.l0 : Nat → List (S49) → List Int → Int → List ByteArray → List Int → Int → Int → Int → Option (Bool)
 | 0, _, _, _, _, _, _, _, _ => none
 | k + 1, x0, x1, x2, x3, x4, x5, x13, x14 => if x14 < x5 then (if 0 ≤ x14 then (if x14 < (x0.length : Int) then (if ((rd_T49 x0 x14).f1) = (wrap64 (x2 + x14)) then (if x14 < (x3.length : Int) then (if ((rd_T49 x0 x14).f3).toList = (rdOf ByteArray.empty x3 x14).toList then (if ((rd_T49 x0 x14).f2) = x13 then (if x14 < (x1.length : Int) then (if x14 < (x4.length : Int) then (if (rd x1 x14) = (rd x4 x14) then ((frame_Size.f ((rdOf ByteArray.empty x3 x14).size : Int)).bind fun t205 => (if (rd x4 x14) = (wrap64 (x13 + t205)) then (postbaglaw10_whole.l0 k x0 x1 x2 x3 x4 x5 (rd x4 x14) (wrap64 (x14 + 1))) else (some false))) else (some false)) else (none)) else (none)) else (some false)) else (some false)) else (none)) else (some false)) else (none)) else (none)) else (some true)
end
def postbaglaw10_whole.f (k : Nat) (l0 : List (S49)) (l1 : List Int) (a2 : Int) (l3 : List ByteArray) (l4 : List Int) (a5 : Int) : Option (Bool) := if (l0.length : Int) = a5 then (postbaglaw10_whole.j0 k l0 l1 a2 l3 l4 a5 ((l1.length : Int) != a5)) else (postbaglaw10_whole.j0 k l0 l1 a2 l3 l4 a5 true)
theorem postbaglaw10_whole.mono_l : ∀ k, (∀ y0 y1 y2 y3 y4 y5 y6, LeO (postbaglaw10_whole.j0 k y0 y1 y2 y3 y4 y5 y6) (postbaglaw10_whole.j0 (k + 1) y0 y1 y2 y3 y4 y5 y6)) ∧ (∀ y0 y1 y2 y3 y4 y5 y6 y7, LeO (postbaglaw10_whole.l0 k y0 y1 y2 y3 y4 y5 y6 y7) (postbaglaw10_whole.l0 (k + 1) y0 y1 y2 y3 y4 y5 y6 y7))
 | 0 => ⟨fun _ _ _ _ _ _ _ r h => by simp [postbaglaw10_whole.j0] at h, fun _ _ _ _ _ _ _ _ r h => by simp [postbaglaw10_whole.l0] at h⟩
 | k + 1 => by
  obtain ⟨ih0, ih1⟩ := postbaglaw10_whole.mono_l k
  refine ⟨?_, ?_⟩
  ·intro y0 y1 y2 y3 y4 y5 y6
   unfold postbaglaw10_whole.j0
   repeat' first
   | (with_reducible exact ih0 _ _ _ _ _ _ _)
   | (with_reducible exact ih1 _ _ _ _ _ _ _ _)
   | (with_reducible exact LeO.refl _)
   | (with_reducible exact LeO.none _)
   | (with_reducible refine LeO.ite ?_ ?_)
   | (with_reducible refine LeO.bind ?_ (fun _ => ?_))
   | exact ih0 _ _ _ _ _ _ _
   | exact ih1 _ _ _ _ _ _ _ _
   | exact LeO.none _
   | refine LeO.ite ?_ ?_
   | refine LeO.bind ?_ (fun _ => ?_)
  ·intro y0 y1 y2 y3 y4 y5 y6 y7
   unfold postbaglaw10_whole.l0
   repeat' first
   | (with_reducible exact ih0 _ _ _ _ _ _ _)
   | (with_reducible exact ih1 _ _ _ _ _ _ _ _)
   | (with_reducible exact LeO.refl _)
   | (with_reducible exact LeO.none _)
   | (with_reducible refine LeO.ite ?_ ?_)
   | (with_reducible refine LeO.bind ?_ (fun _ => ?_))
   | exact ih0 _ _ _ _ _ _ _
   | exact ih1 _ _ _ _ _ _ _ _
   | exact LeO.none _
   | refine LeO.ite ?_ ?_
   | refine LeO.bind ?_ (fun _ => ?_)
theorem postbaglaw10_whole.mono : ∀ a0 a1 a2 a3 a4 a5 k, LeO (postbaglaw10_whole.f k a0 a1 a2 a3 a4 a5) (postbaglaw10_whole.f (k + 1) a0 a1 a2 a3 a4 a5) := by
 intro a0 a1 a2 a3 a4 a5 k
 obtain ⟨ih0, ih1⟩ := postbaglaw10_whole.mono_l k
 unfold postbaglaw10_whole.f
 repeat' first
   | (with_reducible exact ih0 _ _ _ _ _ _ _)
   | (with_reducible exact ih1 _ _ _ _ _ _ _ _)
   | (with_reducible exact LeO.refl _)
   | (with_reducible exact LeO.none _)
   | (with_reducible refine LeO.ite ?_ ?_)
   | (with_reducible refine LeO.bind ?_ (fun _ => ?_))
   | exact ih0 _ _ _ _ _ _ _
   | exact ih1 _ _ _ _ _ _ _ _
   | exact LeO.none _
   | refine LeO.ite ?_ ?_
   | refine LeO.bind ?_ (fun _ => ?_)
def postbaglaw10_whole.T7 : Bool × List (List Nat × List Nat) := (true, [([], []), ([], []), ([0, 1], [0, 1]), ([2], [2]), ([3], [3]), ([], []), ([], []), ([5, 6], [5, 6]), ([4, 7], [4, 7]), ([8], [8]), ([9], [9]), ([9], [9]), ([10, 11, 9], [9, 10, 11]), ([12, 9], [9, 12]), ([13, 9], [9, 13]), ([9], [9]), ([9], [9]), ([15, 16, 9], [9, 15, 16]), ([17, 9], [9, 17]), ([14, 18, 9], [9, 14, 18]), ([9, 19], [9, 19]), ([20, 9], [20]), ([21], [21]), ([21], [21]), ([22, 23, 21], [21, 22, 23]), ([24, 21], [21, 24]), ([25, 21], [21, 25]), ([21], [21]), ([26, 27, 21], [21, 26, 27]), ([21, 28], [21, 28]), ([29, 21], [29]), ([30], [30]), ([30], [30]), ([31, 32, 30], [30, 31, 32]), ([33, 30], [30, 33]), ([30], [30]), ([30], [30]), ([35, 36, 30], [30, 35, 36]), ([37, 30], [30, 37]), ([34, 38, 30], [30, 34, 38]), ([30, 39], [30, 39]), ([40, 30], [40]), ([41], [41]), ([41], [41]), ([42, 43, 41], [41, 42, 43]), ([44, 41], [41, 44]), ([41], [41]), ([41], [41]), ([41], [41]), ([47, 48, 41], [41, 47, 48]), ([49, 41], [41, 49]), ([50, 41], [41, 50]), ([51, 41, 41], [41, 51]), ([46, 52, 41], [41, 46, 52]), ([45, 53, 41], [41, 45, 53]), ([41, 54], [41, 54])])
def postbaglaw10_whole.B7 : List Nat := [0, 0, 3, 7, 15, 0, 0, 96, 255, 511, 1023, 1023, 4095, 8191, 16383, 1023, 1023, 99327, 230399, 524287, 1048575, 2097151, 4194303, 4194303, 16777215, 33554431, 67108863, 4194303, 268435455, 536870911, 1073741823, 2147483647, 2147483647, 8589934591, 17179869183, 2147483647, 2147483647, 105226698751, 242665652223, 549755813887, 1099511627775, 2199023255551, 4398046511103, 4398046511103, 17592186044415, 35184372088831, 4398046511103, 4398046511103, 4398046511103, 426610511577087, 989560464998399, 2115460371841023, 4367260185526271, 8941228557074431, 18014398509481983, 36028797018963967]
theorem postbaglaw10_whole.tab7 : rtab .any (opsOf Try.f27 7) = postbaglaw10_whole.T7 := by kernel_rfl
theorem postbaglaw10_whole.bits7 : waitsOk postbaglaw10_whole.T7.2 postbaglaw10_whole.B7 = true := by kernel_rfl
set_option maxHeartbeats 8000000 in
set_option maxRecDepth 100000 in
theorem postbaglaw10_whole.calls (k : Nat) (A0 : Option Addr) (c0 : Nat) (l0 : List (S49)) (A1 : Option Addr) (c1 : Nat) (l1 : List Int) (a2 : Int) (A3 : Option Addr) (c3 : Nat) (l3 : List ByteArray) (A4 : Option Addr) (c4 : Nat) (l4 : List Int) (a5 : Int) (r : Bool) (w : World) (hr0 : Kd.C k49 w A0 l0.length l0) (hc0 : l0.length ≤ c0) (hr1 : Kd.C (Kd.int .i64) w A1 l1.length l1) (hc1 : l1.length ≤ c1) (hr3 : Kd.C Kd.string w A3 l3.length l3) (hc3 : l3.length ≤ c3) (hr4 : Kd.C (Kd.int .i64) w A4 l4.length l4) (hc4 : l4.length ≤ c4) (h : postbaglaw10_whole.f k l0 l1 a2 l3 l4 a5 = some r) :
  Calls Try.prog 27 #[.slice A0 l0.length c0, .slice A1 l1.length c1, .int .i64 a2, .slice A3 l3.length c3, .slice A4 l4.length c4, .int .i64 a5] w fun e w' => e = .returned (.bool r) ∧ Below w.heap.size w w' := by
 have HR0 := Aside0.mk hr0
 have HC0 := Aside0.mk hc0
 clear hr0 hc0
 have HR1 := Aside0.mk hr1
 have HC1 := Aside0.mk hc1
 clear hr1 hc1
 have HR3 := Aside0.mk hr3
 have HC3 := Aside0.mk hc3
 clear hr3 hc3
 have HR4 := Aside0.mk hr4
 have HC4 := Aside0.mk hc4
 clear hr4 hc4
 have HB := Aside0.mk (Below.refl w.heap.size w)
 have H : (if (l0.length : Int) = a5 then (postbaglaw10_whole.j0 k l0 l1 a2 l3 l4 a5 ((l1.length : Int) != a5)) else (postbaglaw10_whole.j0 k l0 l1 a2 l3 l4 a5 true)) = some r := h
 clear h
 have HC7 := Aside0.mk H
 clear H
 go_enter Try.func27, Try.ntmps27
 go_upto_region 1 with (fail)
 go_cut [24] (fun v24 wc => ∃ (kq : Nat) (x24_6 : Bool), v24 = .bool x24_6 ∧ Aside0 (postbaglaw10_whole.j0 kq l0 l1 a2 l3 l4 a5 x24_6 = some r) ∧ Aside0 (kq ≤ k) ∧ Aside0 (Below w.heap.size w wc))
 case first =>
  have H := HC7.out
  clear HC7
  by_cases c8 : (l0.length : Int) = a5
  ·rw [if_pos c8] at H
   have c8b0 : ((l0.length : Int) == a5) = true := beq_iff_eq.mpr c8
   have c8b1 : ((l0.length : Int) != a5) = false := bne_eq_false_iff_eq.mpr c8
   clear c8
   (first | rw [c8b0] | (simp only [i64_w, i32_w]; rw [c8b0]) | skip)
   have H' := Aside0.mk H
   clear H
   go_wp2
   go_meet
   case rel => exact ⟨_, (((l1.length : Int) != a5)), (by first | rfl | (simp; done) | (simp [*]; done)), H', ⟨by first | omega | exact Nat.le_refl _⟩, ⟨by repeat (first | (with_reducible first | exact HB.out | apply below_alloc | apply pw_below_drewN | apply below_drew1) | exact HB.out)⟩⟩
  ·rw [if_neg c8] at H
   have c8b0 : ((l0.length : Int) == a5) = false := beq_eq_false_iff_ne.mpr c8
   have c8b1 : ((l0.length : Int) != a5) = true := bne_iff_ne.mpr c8
   (first | rw [c8b0] | (simp only [i64_w, i32_w]; rw [c8b0]) | skip)
   have H' := Aside0.mk H
   clear H
   go_wp2
   go_meet
   case rel => exact ⟨_, (true), (by first | rfl | (simp; done) | (simp [*]; done)), H', ⟨by first | omega | exact Nat.le_refl _⟩, ⟨by repeat (first | (with_reducible first | exact HB.out | apply below_alloc | apply pw_below_drewN | apply below_drew1) | exact HB.out)⟩⟩
 case rest =>
  clear HC7
  try clear c1
  try clear c2
  try clear p2
  try clear c3
  try clear c4
  try clear c8
  try clear c8b0
  try clear c8b1
  obtain ⟨kq, x24_6, rfl, HA, HJ6, HB⟩ := hcut
  cases kq with
  | zero => exact absurd HA.out (by simp [postbaglaw10_whole.j0])
  | succ kj6 =>
   have H := HA.out
   clear HA
   simp only [postbaglaw10_whole.j0] at H
   by_cases c9 : x24_6 = true
   ·subst c9
    have H1 : (some false) = some r := by rw [if_pos rfl] at H; exact H
    clear H
    have H := H1
    clear H1
    obtain rfl := Option.some.inj H
    go_wp2
    go_ret
    exact ⟨by first | rfl | (simp [errW_none, errW_some] <;> rfl) | (simp [*, errW_none, errW_some] <;> rfl), by repeat (first | (with_reducible first | exact HB.out | apply below_alloc | apply pw_below_drewN | apply below_drew1) | exact HB.out)⟩
   ·replace c9 := Bool.eq_false_iff.mpr c9
    subst c9
    have H1 : (postbaglaw10_whole.l0 kj6 l0 l1 a2 l3 l4 a5 0 0) = some r := by rw [if_neg (show ¬ (false = true) by decide)] at H; exact H
    clear H
    have H := H1
    clear H1
    have H' := Aside0.mk H
    clear H
    go_wp2
    go_loopg [13, 14] kj6 (fun kq v13 v14 w' => ∃ (x13_2 : Int) (x14_2 : Int), v13 = .int .i64 x13_2 ∧ v14 = .int .i64 x14_2 ∧ Aside0 (postbaglaw10_whole.l0 kq l0 l1 a2 l3 l4 a5 x13_2 x14_2 = some r) ∧ Aside0 (kq ≤ kj6) ∧ Aside0 (Below w.heap.size w w'))
    case atStart => exact ⟨(0), (0), (by first | rfl | (simp; done) | (simp [*]; done)), (by first | rfl | (simp; done) | (simp [*]; done)), H', ⟨Nat.le_refl _⟩, ⟨by repeat (first | (with_reducible first | exact HB.out | apply below_alloc | apply pw_below_drewN | apply below_drew1) | exact HB.out)⟩⟩
    case round =>
     clear H'
     try clear c1
     try clear c2
     try clear p2
     try clear c3
     try clear c4
     try clear c8
     try clear c8b0
     try clear c8b1
     try clear c9
     try clear p2
     obtain ⟨x13_2, x14_2, rfl, rfl, HA, HK2, HB⟩ := hrel
     cases gk with
     | zero => exact absurd HA.out (by simp [postbaglaw10_whole.l0])
     | succ k2 =>
      have H := HA.out
      clear HA
      simp only [postbaglaw10_whole.l0] at H
      by_cases c10 : x14_2 < a5
      ·rw [if_pos c10] at H
       have c10b0 : decide (x14_2 < a5) = true := decide_eq_true c10
       clear c10
       by_cases c11 : 0 ≤ x14_2
       ·rw [if_pos c11] at H
        have c11b0 : decide (0 ≤ x14_2) = true := decide_eq_true c11
        clear c11
        by_cases c12 : x14_2 < (l0.length : Int)
        ·rw [if_pos c12] at H
         have c12b0 : decide (x14_2 < (l0.length : Int)) = true := decide_eq_true c12
         clear c12
         by_cases c13 : ((rd_T49 l0 x14_2).f1) = (wrap64 (a2 + x14_2))
         ·rw [if_pos c13] at H
          have c13b0 : (((rd_T49 l0 x14_2).f1) == (wrap64 (a2 + x14_2))) = true := beq_iff_eq.mpr c13
          have c13b1 : (((rd_T49 l0 x14_2).f1) != (wrap64 (a2 + x14_2))) = false := bne_eq_false_iff_eq.mpr c13
          clear c13
          by_cases c14 : x14_2 < (l3.length : Int)
          ·rw [if_pos c14] at H
           have c14b0 : decide (x14_2 < (l3.length : Int)) = true := decide_eq_true c14
           clear c14
           by_cases c15 : ((rd_T49 l0 x14_2).f3).toList = (rdOf ByteArray.empty l3 x14_2).toList
           ·rw [if_pos c15] at H
            have c15b0 : (((rd_T49 l0 x14_2).f3).toList == (rdOf ByteArray.empty l3 x14_2).toList) = true := beq_iff_eq.mpr c15
            have c15b1 : (((rd_T49 l0 x14_2).f3).toList != (rdOf ByteArray.empty l3 x14_2).toList) = false := bne_eq_false_iff_eq.mpr c15
            clear c15
            by_cases c16 : ((rd_T49 l0 x14_2).f2) = x13_2
            ·rw [if_pos c16] at H
             have c16b0 : (((rd_T49 l0 x14_2).f2) == x13_2) = true := beq_iff_eq.mpr c16
             have c16b1 : (((rd_T49 l0 x14_2).f2) != x13_2) = false := bne_eq_false_iff_eq.mpr c16
             clear c16
             by_cases c17 : x14_2 < (l1.length : Int)
             ·rw [if_pos c17] at H
              have c17b0 : decide (x14_2 < (l1.length : Int)) = true := decide_eq_true c17
              clear c17
              by_cases c18 : x14_2 < (l4.length : Int)
              ·rw [if_pos c18] at H
               have c18b0 : decide (x14_2 < (l4.length : Int)) = true := decide_eq_true c18
               clear c18
               by_cases c19 : (rd l1 x14_2) = (rd l4 x14_2)
               ·rw [if_pos c19] at H
                have c19b0 : ((rd l1 x14_2) == (rd l4 x14_2)) = true := beq_iff_eq.mpr c19
                have c19b1 : ((rd l1 x14_2) != (rd l4 x14_2)) = false := bne_eq_false_iff_eq.mpr c19
                clear c19
                replace H := Option.bind_eq_some_iff.mp H
                obtain ⟨t205, A200, H⟩ := H
                replace H : (if (rd l4 x14_2) = (wrap64 (x13_2 + t205)) then (postbaglaw10_whole.l0 k2 l0 l1 a2 l3 l4 a5 (rd l4 x14_2) (wrap64 (x14_2 + 1))) else (some false)) = some r := H
                have A20 := Aside0.mk A200
                clear A200
                by_cases c21 : (rd l4 x14_2) = (wrap64 (x13_2 + t205))
                ·rw [if_pos c21] at H
                 have c21b0 : ((rd l4 x14_2) == (wrap64 (x13_2 + t205))) = true := beq_iff_eq.mpr c21
                 have c21b1 : ((rd l4 x14_2) != (wrap64 (x13_2 + t205))) = false := bne_eq_false_iff_eq.mpr c21
                 clear c21
                 have H' := Aside0.mk H
                 clear H
                 try go_wp2
                 have n0_ := Aside0.mk (below_drew1 HB.out)
                 clear HB
                 have HB := n0_
                 clear n0_
                 have p197 : 0 ≤ (x14_2 : Int) := of_decide_eq_true (by first | (with_reducible assumption) | assumption)
                 have q197 : x14_2 < (l0.length : Int) := of_decide_eq_true (by first | (with_reducible assumption) | assumption)
                 obtain ⟨ad197, e197, hx197_0, hx197_1, hx197_2, hx197_3⟩ := at_T49 HR0.out x14_2 p197 q197
                 have hw197_3 := hx197_3
                 have hw197_2 := hx197_2
                 have hw197_1 := hx197_1
                 have hw197_0 := hx197_0
                 cases e197
                 replace hx197_0 := (HB.out.cell (World.block_lt_of_cell? w _ hx197_0)).trans hx197_0
                 replace hx197_1 := (HB.out.cell (World.block_lt_of_cell? w _ hx197_1)).trans hx197_1
                 replace hx197_2 := (HB.out.cell (World.block_lt_of_cell? w _ hx197_2)).trans hx197_2
                 replace hx197_3 := (HB.out.cell (World.block_lt_of_cell? w _ hx197_3)).trans hx197_3
                 replace p197 := eq_true p197
                 replace q197 := eq_true q197
                 have p198 : 0 ≤ (x14_2 : Int) := of_decide_eq_true (by first | (with_reducible assumption) | assumption)
                 have q198 : x14_2 < (l0.length : Int) := of_decide_eq_true (by first | (with_reducible assumption) | assumption)
                 obtain ⟨ad198, e198, hx198_0, hx198_1, hx198_2, hx198_3⟩ := at_T49 HR0.out x14_2 p198 q198
                 have hw198_3 := hx198_3
                 have hw198_2 := hx198_2
                 have hw198_1 := hx198_1
                 have hw198_0 := hx198_0
                 obtain rfl : ad197 = ad198 := (by injection e198)
                 replace hx198_0 := (HB.out.cell (World.block_lt_of_cell? w _ hx198_0)).trans hx198_0
                 replace hx198_1 := (HB.out.cell (World.block_lt_of_cell? w _ hx198_1)).trans hx198_1
                 replace hx198_2 := (HB.out.cell (World.block_lt_of_cell? w _ hx198_2)).trans hx198_2
                 replace hx198_3 := (HB.out.cell (World.block_lt_of_cell? w _ hx198_3)).trans hx198_3
                 replace p198 := eq_true p198
                 replace q198 := eq_true q198
                 have p199 : 0 ≤ (x14_2 : Int) := of_decide_eq_true (by first | (with_reducible assumption) | assumption)
                 have q199 : x14_2 < (l3.length : Int) := of_decide_eq_true (by first | (with_reducible assumption) | assumption)
                 obtain ⟨ad199, e199, hx199_0⟩ := Kd.at_string HR3.out x14_2 p199 q199
                 have hw199_0 := hx199_0
                 cases e199
                 replace hx199_0 := (HB.out.cell (World.block_lt_of_cell? w _ hx199_0)).trans hx199_0
                 replace p199 := eq_true p199
                 replace q199 := eq_true q199
                 have p200 : 0 ≤ (x14_2 : Int) := of_decide_eq_true (by first | (with_reducible assumption) | assumption)
                 have q200 : x14_2 < (l0.length : Int) := of_decide_eq_true (by first | (with_reducible assumption) | assumption)
                 obtain ⟨ad200, e200, hx200_0, hx200_1, hx200_2, hx200_3⟩ := at_T49 HR0.out x14_2 p200 q200
                 have hw200_3 := hx200_3
                 have hw200_2 := hx200_2
                 have hw200_1 := hx200_1
                 have hw200_0 := hx200_0
                 obtain rfl : ad197 = ad200 := (by injection e200)
                 replace hx200_0 := (HB.out.cell (World.block_lt_of_cell? w _ hx200_0)).trans hx200_0
                 replace hx200_1 := (HB.out.cell (World.block_lt_of_cell? w _ hx200_1)).trans hx200_1
                 replace hx200_2 := (HB.out.cell (World.block_lt_of_cell? w _ hx200_2)).trans hx200_2
                 replace hx200_3 := (HB.out.cell (World.block_lt_of_cell? w _ hx200_3)).trans hx200_3
                 replace p200 := eq_true p200
                 replace q200 := eq_true q200
                 have p201 : 0 ≤ (x14_2 : Int) := of_decide_eq_true (by first | (with_reducible assumption) | assumption)
                 have q201 : x14_2 < (l1.length : Int) := of_decide_eq_true (by first | (with_reducible assumption) | assumption)
                 obtain ⟨ad201, e201, hx201_0⟩ := Kd.at_int HR1.out x14_2 p201 q201
                 have hw201_0 := hx201_0
                 cases e201
                 replace hx201_0 := (HB.out.cell (World.block_lt_of_cell? w _ hx201_0)).trans hx201_0
                 replace p201 := eq_true p201
                 replace q201 := eq_true q201
                 have p202 : 0 ≤ (x14_2 : Int) := of_decide_eq_true (by first | (with_reducible assumption) | assumption)
                 have q202 : x14_2 < (l4.length : Int) := of_decide_eq_true (by first | (with_reducible assumption) | assumption)
                 obtain ⟨ad202, e202, hx202_0⟩ := Kd.at_int HR4.out x14_2 p202 q202
                 have hw202_0 := hx202_0
                 cases e202
                 replace hx202_0 := (HB.out.cell (World.block_lt_of_cell? w _ hx202_0)).trans hx202_0
                 replace p202 := eq_true p202
                 replace q202 := eq_true q202
                 have p203 : 0 ≤ (x14_2 : Int) := of_decide_eq_true (by first | (with_reducible assumption) | assumption)
                 have q203 : x14_2 < (l4.length : Int) := of_decide_eq_true (by first | (with_reducible assumption) | assumption)
                 obtain ⟨ad203, e203, hx203_0⟩ := Kd.at_int HR4.out x14_2 p203 q203
                 have hw203_0 := hx203_0
                 obtain rfl : ad202 = ad203 := (by injection e203)
                 replace hx203_0 := (HB.out.cell (World.block_lt_of_cell? w _ hx203_0)).trans hx203_0
                 replace p203 := eq_true p203
                 replace q203 := eq_true q203
                 have p204 : 0 ≤ (x14_2 : Int) := of_decide_eq_true (by first | (with_reducible assumption) | assumption)
                 have q204 : x14_2 < (l3.length : Int) := of_decide_eq_true (by first | (with_reducible assumption) | assumption)
                 obtain ⟨ad204, e204, hx204_0⟩ := Kd.at_string HR3.out x14_2 p204 q204
                 have hw204_0 := hx204_0
                 obtain rfl : ad199 = ad204 := (by injection e204)
                 replace hx204_0 := (HB.out.cell (World.block_lt_of_cell? w _ hx204_0)).trans hx204_0
                 replace p204 := eq_true p204
                 replace q204 := eq_true q204
                 refine start_ (n := 56) (S := fun w' => w'.cell? (ad197.add ((x14_2).toNat * 4)) = some (.int .i64 ((rd_T49 l0 x14_2).f0)) ∧ w'.cell? ⟨(ad197.add ((x14_2).toNat * 4)).block, (ad197.add ((x14_2).toNat * 4)).off + 1, none⟩ = some (.int .i64 ((rd_T49 l0 x14_2).f1)) ∧ w'.cell? ⟨(ad197.add ((x14_2).toNat * 4)).block, (ad197.add ((x14_2).toNat * 4)).off + 2, none⟩ = some (.int .i64 ((rd_T49 l0 x14_2).f2)) ∧ w'.cell? ⟨(ad197.add ((x14_2).toNat * 4)).block, (ad197.add ((x14_2).toNat * 4)).off + 3, none⟩ = some (.string ((rd_T49 l0 x14_2).f3)) ∧ w'.cell? (ad197.add ((x14_2).toNat * 4)) = some (.int .i64 ((rd_T49 l0 x14_2).f0)) ∧ w'.cell? ⟨(ad197.add ((x14_2).toNat * 4)).block, (ad197.add ((x14_2).toNat * 4)).off + 1, none⟩ = some (.int .i64 ((rd_T49 l0 x14_2).f1)) ∧ w'.cell? ⟨(ad197.add ((x14_2).toNat * 4)).block, (ad197.add ((x14_2).toNat * 4)).off + 2, none⟩ = some (.int .i64 ((rd_T49 l0 x14_2).f2)) ∧ w'.cell? ⟨(ad197.add ((x14_2).toNat * 4)).block, (ad197.add ((x14_2).toNat * 4)).off + 3, none⟩ = some (.string ((rd_T49 l0 x14_2).f3)) ∧ w'.cell? (ad199.add (x14_2).toNat) = some (.string (rdOf ByteArray.empty l3 x14_2)) ∧ w'.cell? (ad197.add ((x14_2).toNat * 4)) = some (.int .i64 ((rd_T49 l0 x14_2).f0)) ∧ w'.cell? ⟨(ad197.add ((x14_2).toNat * 4)).block, (ad197.add ((x14_2).toNat * 4)).off + 1, none⟩ = some (.int .i64 ((rd_T49 l0 x14_2).f1)) ∧ w'.cell? ⟨(ad197.add ((x14_2).toNat * 4)).block, (ad197.add ((x14_2).toNat * 4)).off + 2, none⟩ = some (.int .i64 ((rd_T49 l0 x14_2).f2)) ∧ w'.cell? ⟨(ad197.add ((x14_2).toNat * 4)).block, (ad197.add ((x14_2).toNat * 4)).off + 3, none⟩ = some (.string ((rd_T49 l0 x14_2).f3)) ∧ w'.cell? (ad201.add (x14_2).toNat) = some (.int .i64 (rd l1 x14_2)) ∧ w'.cell? (ad202.add (x14_2).toNat) = some (.int .i64 (rd l4 x14_2)) ∧ w'.cell? (ad202.add (x14_2).toNat) = some (.int .i64 (rd l4 x14_2)) ∧ w'.cell? (ad199.add (x14_2).toNat) = some (.string (rdOf ByteArray.empty l3 x14_2))) (ds := []) (bs_ 0 56) (by kernel_rfl) rfl rfl ⟨((HB.out.cell (World.block_lt_of_cell? w _ hw197_0)).trans hw197_0), ((HB.out.cell (World.block_lt_of_cell? w _ hw197_1)).trans hw197_1), ((HB.out.cell (World.block_lt_of_cell? w _ hw197_2)).trans hw197_2), ((HB.out.cell (World.block_lt_of_cell? w _ hw197_3)).trans hw197_3), ((HB.out.cell (World.block_lt_of_cell? w _ hw198_0)).trans hw198_0), ((HB.out.cell (World.block_lt_of_cell? w _ hw198_1)).trans hw198_1), ((HB.out.cell (World.block_lt_of_cell? w _ hw198_2)).trans hw198_2), ((HB.out.cell (World.block_lt_of_cell? w _ hw198_3)).trans hw198_3), ((HB.out.cell (World.block_lt_of_cell? w _ hw199_0)).trans hw199_0), ((HB.out.cell (World.block_lt_of_cell? w _ hw200_0)).trans hw200_0), ((HB.out.cell (World.block_lt_of_cell? w _ hw200_1)).trans hw200_1), ((HB.out.cell (World.block_lt_of_cell? w _ hw200_2)).trans hw200_2), ((HB.out.cell (World.block_lt_of_cell? w _ hw200_3)).trans hw200_3), ((HB.out.cell (World.block_lt_of_cell? w _ hw201_0)).trans hw201_0), ((HB.out.cell (World.block_lt_of_cell? w _ hw202_0)).trans hw202_0), ((HB.out.cell (World.block_lt_of_cell? w _ hw203_0)).trans hw203_0), ((HB.out.cell (World.block_lt_of_cell? w _ hw204_0)).trans hw204_0)⟩ (fun hHeld => ?_); refine with_tabW postbaglaw10_whole.tab7 postbaglaw10_whole.bits7 (fun HT_ HW_ => ?_)
                 generalize wr.drew = w22 at HB hx197_0 hx197_1 hx197_2 hx197_3 hx198_0 hx198_1 hx198_2 hx198_3 hx199_0 hx200_0 hx200_1 hx200_2 hx200_3 hx201_0 hx202_0 hx203_0 hx204_0 hHeld ⊢
                 refine pu_ 0 (some 30) ?_ (bs_ 1 55) rfl rfl (any_of HT_.out (by kernel_rfl)) (fun _ _ _ h => h) (y_ (by rfl) ?_) ?_ ?_ ?_
                 rotate_left
                 ·intro w'
                  go_simp
                  with_reducible rfl
                 rotate_left
                 ·simp only [Act.put, s1_, s2_, s3_, i64_w, i32_w]
                  rfl
                 refine pu_ 1 (some 31) ?_ (bs_ 2 54) rfl rfl (any_of HT_.out (by kernel_rfl)) (fun _ _ _ h => h) (y_ (by rfl) ?_) ?_ ?_ ?_
                 rotate_left
                 ·intro w'
                  go_simp
                  with_reducible rfl
                 rotate_left
                 ·simp only [Act.put, s1_, s2_, s3_, i64_w, i32_w]
                  rfl
                 refine pu_ 2 (some 32) ?_ (bs_ 3 53) rfl rfl (any_of HT_.out (by kernel_rfl)) (fun _ _ _ h => h) (y_ (by rfl) ?_) ?_ ?_ ?_
                 rotate_left
                 ·intro w'
                  go_simp
                  with_reducible rfl
                 rotate_left
                 ·simp only [Act.put, s1_, s2_, s3_, i64_w, i32_w]
                  rfl
                 refine pu_ 3 (some 33) ?_ (bs_ 4 52) rfl rfl (any_of HT_.out (by kernel_rfl)) (fun _ _ _ h => h) (y_ (by rfl) ?_) ?_ ?_ ?_
                 rotate_left
                 ·intro w'
                  go_simp
                  with_reducible rfl
                 rotate_left
                 ·simp only [Act.put, s1_, s2_, s3_, i64_w, i32_w]
                  rfl
                 refine pu_ 5 (some 35) ?_ #[true, true, true, true, false, true, false, false, false, false, false, false, false, false, false, false, false, false, false, false, false, false, false, false, false, false, false, false, false, false, false, false, false, false, false, false, false, false, false, false, false, false, false, false, false, false, false, false, false, false, false, false, false, false, false, false] rfl rfl (any_of HT_.out (by kernel_rfl)) (fun _ _ _ h => h) (y_ (by rfl) ?_) ?_ ?_ ?_
                 rotate_left
                 ·intro w'
                  go_simp
                  with_reducible rfl
                 rotate_left
                 ·simp only [Act.put, s1_, s2_, s3_, i64_w, i32_w]
                  rfl
                 refine pu_ 6 (some 36) ?_ #[true, true, true, true, false, true, true, false, false, false, false, false, false, false, false, false, false, false, false, false, false, false, false, false, false, false, false, false, false, false, false, false, false, false, false, false, false, false, false, false, false, false, false, false, false, false, false, false, false, false, false, false, false, false, false, false] rfl rfl (any_of HT_.out (by kernel_rfl)) (fun _ _ _ h => h) (y_ (by rfl) ?_) ?_ ?_ ?_
                 rotate_left
                 ·intro w'
                  go_simp
                  with_reducible rfl
                 rotate_left
                 ·simp only [Act.put, s1_, s2_, s3_, i64_w, i32_w]
                  rfl
                 refine pu_ 7 (some 37) ?_ #[true, true, true, true, false, true, true, true, false, false, false, false, false, false, false, false, false, false, false, false, false, false, false, false, false, false, false, false, false, false, false, false, false, false, false, false, false, false, false, false, false, false, false, false, false, false, false, false, false, false, false, false, false, false, false, false] rfl rfl (any_of HT_.out (by kernel_rfl)) (fun _ _ _ h => h) (y_ (by rfl) ?_) ?_ ?_ ?_
                 rotate_left
                 ·intro w'
                  go_simp
                  with_reducible rfl
                 rotate_left
                 ·simp only [Act.put, s1_, s2_, s3_, i64_w, i32_w]
                  rfl
                 refine take_ (i := 4) (N := some 34) (v := ?_) (a' := ?_) (bs_ 8 48) rfl rfl (take_ofW HT_.out HW_.out (by kernel_rfl)) (fun _ _ _ h => h) (Or.inl ⟨by rfl, ?_⟩) hHeld ?_ ?_
                 rotate_left
                 ·rintro w' ⟨s0, s1, s2, s3, s4, s5, s6, s7, s8, s9, s10, s11, s12, s13, s14, s15, s16⟩
                  go_simp
                  with_reducible rfl
                 rotate_left
                 ·simp only [Act.put, s1_, s2_, s3_, i64_w, i32_w]
                  rfl
                 refine pu_ 8 (some 38) ?_ (bs_ 9 47) rfl rfl (any_of HT_.out (by kernel_rfl)) (fun _ _ _ h => h) (y_ (by rfl) ?_) ?_ ?_ ?_
                 rotate_left
                 ·intro w'
                  go_simp
                  with_reducible rfl
                 rotate_left
                 ·simp only [Act.put, s1_, s2_, s3_, i64_w, i32_w]
                  rfl
                 refine pu_ 9 (some 39) ?_ (bs_ 10 46) rfl rfl (any_of HT_.out (by kernel_rfl)) (fun _ _ _ h => h) (y_ (by rfl) ?_) ?_ ?_ ?_
                 rotate_left
                 ·intro w'
                  go_simp
                  with_reducible rfl
                 rotate_left
                 ·simp only [Act.put, s1_, s2_, s3_, i64_w, i32_w]
                  rfl
                 refine pu_ 10 (some 40) ?_ (bs_ 11 45) rfl rfl (any_of HT_.out (by kernel_rfl)) (fun _ _ _ h => h) (y_ (by rfl) ?_) ?_ ?_ ?_
                 rotate_left
                 ·intro w'
                  go_simp
                  with_reducible rfl
                 rotate_left
                 ·simp only [Act.put, s1_, s2_, s3_, i64_w, i32_w]
                  rfl
                 refine pu_ 11 (some 41) ?_ (bs_ 12 44) rfl rfl (any_of HT_.out (by kernel_rfl)) (fun _ _ _ h => h) (y_ (by rfl) ?_) ?_ ?_ ?_
                 rotate_left
                 ·intro w'
                  go_simp
                  with_reducible rfl
                 rotate_left
                 ·simp only [Act.put, s1_, s2_, s3_, i64_w, i32_w]
                  rfl
                 refine pu_ 12 (some 42) ?_ (bs_ 13 43) rfl rfl (any_of HT_.out (by kernel_rfl)) (fun _ _ _ h => h) (y_ (by rfl) ?_) ?_ ?_ ?_
                 rotate_left
                 ·intro w'
                  go_simp
                  with_reducible rfl
                 rotate_left
                 ·simp only [Act.put, s1_, s2_, s3_, i64_w, i32_w]
                  rfl
                 refine pu_ 13 (some 43) ?_ (bs_ 14 42) rfl rfl (any_of HT_.out (by kernel_rfl)) (fun _ _ _ h => h) (y_ (by rfl) ?_) ?_ ?_ ?_
                 rotate_left
                 ·intro w'
                  go_simp
                  with_reducible rfl
                 rotate_left
                 ·simp only [Act.put, s1_, s2_, s3_, i64_w, i32_w]
                  rfl
                 refine pu_ 15 (some 45) ?_ #[true, true, true, true, true, true, true, true, true, true, true, true, true, true, false, true, false, false, false, false, false, false, false, false, false, false, false, false, false, false, false, false, false, false, false, false, false, false, false, false, false, false, false, false, false, false, false, false, false, false, false, false, false, false, false, false] rfl rfl (any_of HT_.out (by kernel_rfl)) (fun _ _ _ h => h) (y_ (by rfl) ?_) ?_ ?_ ?_
                 rotate_left
                 ·intro w'
                  go_simp
                  with_reducible rfl
                 rotate_left
                 ·simp only [Act.put, s1_, s2_, s3_, i64_w, i32_w]
                  rfl
                 refine pu_ 16 (some 46) ?_ #[true, true, true, true, true, true, true, true, true, true, true, true, true, true, false, true, true, false, false, false, false, false, false, false, false, false, false, false, false, false, false, false, false, false, false, false, false, false, false, false, false, false, false, false, false, false, false, false, false, false, false, false, false, false, false, false] rfl rfl (any_of HT_.out (by kernel_rfl)) (fun _ _ _ h => h) (y_ (by rfl) ?_) ?_ ?_ ?_
                 rotate_left
                 ·intro w'
                  go_simp
                  with_reducible rfl
                 rotate_left
                 ·simp only [Act.put, s1_, s2_, s3_, i64_w, i32_w]
                  rfl
                 refine pu_ 17 (some 47) ?_ #[true, true, true, true, true, true, true, true, true, true, true, true, true, true, false, true, true, true, false, false, false, false, false, false, false, false, false, false, false, false, false, false, false, false, false, false, false, false, false, false, false, false, false, false, false, false, false, false, false, false, false, false, false, false, false, false] rfl rfl (any_of HT_.out (by kernel_rfl)) (fun _ _ _ h => h) (y_ (by rfl) ?_) ?_ ?_ ?_
                 rotate_left
                 ·intro w'
                  go_simp
                  with_reducible rfl
                 rotate_left
                 ·simp only [Act.put, s1_, s2_, s3_, i64_w, i32_w]
                  rfl
                 refine take_ (i := 14) (N := some 44) (v := ?_) (a' := ?_) (bs_ 18 38) rfl rfl (take_ofW HT_.out HW_.out (by kernel_rfl)) (fun _ _ _ h => h) (Or.inl ⟨by rfl, ?_⟩) hHeld ?_ ?_
                 rotate_left
                 ·rintro w' ⟨s0, s1, s2, s3, s4, s5, s6, s7, s8, s9, s10, s11, s12, s13, s14, s15, s16⟩
                  go_simp
                  with_reducible rfl
                 rotate_left
                 ·simp only [Act.put, s1_, s2_, s3_, i64_w, i32_w]
                  rfl
                 refine take_ (i := 18) (N := some 48) (v := ?_) (a' := ?_) (bs_ 19 37) rfl rfl (take_ofW HT_.out HW_.out (by kernel_rfl)) (fun _ _ _ h => h) (Or.inl ⟨by rfl, ?_⟩) hHeld ?_ ?_
                 rotate_left
                 ·rintro w' ⟨s0, s1, s2, s3, s4, s5, s6, s7, s8, s9, s10, s11, s12, s13, s14, s15, s16⟩
                  go_simp
                  with_reducible rfl
                 rotate_left
                 ·simp only [Act.put, s1_, s2_, s3_, i64_w, i32_w]
                  rfl
                 refine pu_ 19 (some 49) ?_ (bs_ 20 36) rfl rfl (any_of HT_.out (by kernel_rfl)) (fun _ _ _ h => h) (y_ (by rfl) ?_) ?_ ?_ ?_
                 rotate_left
                 ·intro w'
                  go_simp
                  with_reducible rfl
                 rotate_left
                 ·simp only [Act.put, s1_, s2_, s3_, i64_w, i32_w]
                  rfl
                 refine pu_ 20 (some 50) ?_ (bs_ 21 35) rfl rfl (any_of HT_.out (by kernel_rfl)) (fun _ _ _ h => h) (y_ (by rfl) ?_) ?_ ?_ ?_
                 rotate_left
                 ·intro w'
                  go_simp
                  with_reducible rfl
                 rotate_left
                 ·simp only [Act.put, s1_, s2_, s3_, i64_w, i32_w]
                  rfl
                 refine pu_ 21 (some 51) ?_ (bs_ 22 34) rfl rfl (any_of HT_.out (by kernel_rfl)) (fun _ _ _ h => h) (y_ (by rfl) ?_) ?_ ?_ ?_
                 rotate_left
                 ·intro w'
                  go_simp
                  with_reducible rfl
                 rotate_left
                 ·simp only [Act.put, s1_, s2_, s3_, i64_w, i32_w]
                  rfl
                 refine pu_ 22 (some 52) ?_ (bs_ 23 33) rfl rfl (any_of HT_.out (by kernel_rfl)) (fun _ _ _ h => h) (y_ (by rfl) ?_) ?_ ?_ ?_
                 rotate_left
                 ·intro w'
                  go_simp
                  with_reducible rfl
                 rotate_left
                 ·simp only [Act.put, s1_, s2_, s3_, i64_w, i32_w]
                  rfl
                 refine pu_ 23 (some 53) ?_ (bs_ 24 32) rfl rfl (any_of HT_.out (by kernel_rfl)) (fun _ _ _ h => h) (y_ (by rfl) ?_) ?_ ?_ ?_
                 rotate_left
                 ·intro w'
                  go_simp
                  with_reducible rfl
                 rotate_left
                 ·simp only [Act.put, s1_, s2_, s3_, i64_w, i32_w]
                  rfl
                 refine pu_ 24 (some 54) ?_ (bs_ 25 31) rfl rfl (any_of HT_.out (by kernel_rfl)) (fun _ _ _ h => h) (y_ (by rfl) ?_) ?_ ?_ ?_
                 rotate_left
                 ·intro w'
                  go_simp
                  with_reducible rfl
                 rotate_left
                 ·simp only [Act.put, s1_, s2_, s3_, i64_w, i32_w]
                  rfl
                 refine pu_ 25 (some 55) ?_ (bs_ 26 30) rfl rfl (any_of HT_.out (by kernel_rfl)) (fun _ _ _ h => h) (y_ (by rfl) ?_) ?_ ?_ ?_
                 rotate_left
                 ·intro w'
                  go_simp
                  with_reducible rfl
                 rotate_left
                 ·simp only [Act.put, s1_, s2_, s3_, i64_w, i32_w]
                  rfl
                 refine pu_ 27 (some 57) ?_ #[true, true, true, true, true, true, true, true, true, true, true, true, true, true, true, true, true, true, true, true, true, true, true, true, true, true, false, true, false, false, false, false, false, false, false, false, false, false, false, false, false, false, false, false, false, false, false, false, false, false, false, false, false, false, false, false] rfl rfl (any_of HT_.out (by kernel_rfl)) (fun _ _ _ h => h) (y_ (by rfl) ?_) ?_ ?_ ?_
                 rotate_left
                 ·intro w'
                  go_simp
                  with_reducible rfl
                 rotate_left
                 ·simp only [Act.put, s1_, s2_, s3_, i64_w, i32_w]
                  rfl
                 refine take_ (i := 26) (N := some 56) (v := ?_) (a' := ?_) (bs_ 28 28) rfl rfl (take_ofW HT_.out HW_.out (by kernel_rfl)) (fun _ _ _ h => h) (Or.inl ⟨by rfl, ?_⟩) hHeld ?_ ?_
                 rotate_left
                 ·rintro w' ⟨s0, s1, s2, s3, s4, s5, s6, s7, s8, s9, s10, s11, s12, s13, s14, s15, s16⟩
                  go_simp
                  with_reducible rfl
                 rotate_left
                 ·simp only [Act.put, s1_, s2_, s3_, i64_w, i32_w]
                  rfl
                 refine pu_ 28 (some 58) ?_ (bs_ 29 27) rfl rfl (any_of HT_.out (by kernel_rfl)) (fun _ _ _ h => h) (y_ (by rfl) ?_) ?_ ?_ ?_
                 rotate_left
                 ·intro w'
                  go_simp
                  with_reducible rfl
                 rotate_left
                 ·simp only [Act.put, s1_, s2_, s3_, i64_w, i32_w]
                  rfl
                 refine pu_ 29 (some 59) ?_ (bs_ 30 26) rfl rfl (any_of HT_.out (by kernel_rfl)) (fun _ _ _ h => h) (y_ (by rfl) ?_) ?_ ?_ ?_
                 rotate_left
                 ·intro w'
                  go_simp
                  with_reducible rfl
                 rotate_left
                 ·simp only [Act.put, s1_, s2_, s3_, i64_w, i32_w]
                  rfl
                 refine pu_ 30 (some 60) ?_ (bs_ 31 25) rfl rfl (any_of HT_.out (by kernel_rfl)) (fun _ _ _ h => h) (y_ (by rfl) ?_) ?_ ?_ ?_
                 rotate_left
                 ·intro w'
                  go_simp
                  with_reducible rfl
                 rotate_left
                 ·simp only [Act.put, s1_, s2_, s3_, i64_w, i32_w]
                  rfl
                 refine pu_ 31 (some 61) ?_ (bs_ 32 24) rfl rfl (any_of HT_.out (by kernel_rfl)) (fun _ _ _ h => h) (y_ (by rfl) ?_) ?_ ?_ ?_
                 rotate_left
                 ·intro w'
                  go_simp
                  with_reducible rfl
                 rotate_left
                 ·simp only [Act.put, s1_, s2_, s3_, i64_w, i32_w]
                  rfl
                 refine pu_ 32 (some 62) ?_ (bs_ 33 23) rfl rfl (any_of HT_.out (by kernel_rfl)) (fun _ _ _ h => h) (y_ (by rfl) ?_) ?_ ?_ ?_
                 rotate_left
                 ·intro w'
                  go_simp
                  with_reducible rfl
                 rotate_left
                 ·simp only [Act.put, s1_, s2_, s3_, i64_w, i32_w]
                  rfl
                 refine pu_ 33 (some 63) ?_ (bs_ 34 22) rfl rfl (any_of HT_.out (by kernel_rfl)) (fun _ _ _ h => h) (y_ (by rfl) ?_) ?_ ?_ ?_
                 rotate_left
                 ·intro w'
                  go_simp
                  with_reducible rfl
                 rotate_left
                 ·simp only [Act.put, s1_, s2_, s3_, i64_w, i32_w]
                  rfl
                 refine pu_ 35 (some 65) ?_ #[true, true, true, true, true, true, true, true, true, true, true, true, true, true, true, true, true, true, true, true, true, true, true, true, true, true, true, true, true, true, true, true, true, true, false, true, false, false, false, false, false, false, false, false, false, false, false, false, false, false, false, false, false, false, false, false] rfl rfl (any_of HT_.out (by kernel_rfl)) (fun _ _ _ h => h) (y_ (by rfl) ?_) ?_ ?_ ?_
                 rotate_left
                 ·intro w'
                  go_simp
                  with_reducible rfl
                 rotate_left
                 ·simp only [Act.put, s1_, s2_, s3_, i64_w, i32_w]
                  rfl
                 refine pu_ 36 (some 66) ?_ #[true, true, true, true, true, true, true, true, true, true, true, true, true, true, true, true, true, true, true, true, true, true, true, true, true, true, true, true, true, true, true, true, true, true, false, true, true, false, false, false, false, false, false, false, false, false, false, false, false, false, false, false, false, false, false, false] rfl rfl (any_of HT_.out (by kernel_rfl)) (fun _ _ _ h => h) (y_ (by rfl) ?_) ?_ ?_ ?_
                 rotate_left
                 ·intro w'
                  go_simp
                  with_reducible rfl
                 rotate_left
                 ·simp only [Act.put, s1_, s2_, s3_, i64_w, i32_w]
                  rfl
                 refine pu_ 37 (some 67) ?_ #[true, true, true, true, true, true, true, true, true, true, true, true, true, true, true, true, true, true, true, true, true, true, true, true, true, true, true, true, true, true, true, true, true, true, false, true, true, true, false, false, false, false, false, false, false, false, false, false, false, false, false, false, false, false, false, false] rfl rfl (any_of HT_.out (by kernel_rfl)) (fun _ _ _ h => h) (y_ (by rfl) ?_) ?_ ?_ ?_
                 rotate_left
                 ·intro w'
                  go_simp
                  with_reducible rfl
                 rotate_left
                 ·simp only [Act.put, s1_, s2_, s3_, i64_w, i32_w]
                  rfl
                 refine take_ (i := 34) (N := some 64) (v := ?_) (a' := ?_) (bs_ 38 18) rfl rfl (take_ofW HT_.out HW_.out (by kernel_rfl)) (fun _ _ _ h => h) (Or.inl ⟨by rfl, ?_⟩) hHeld ?_ ?_
                 rotate_left
                 ·rintro w' ⟨s0, s1, s2, s3, s4, s5, s6, s7, s8, s9, s10, s11, s12, s13, s14, s15, s16⟩
                  go_simp
                  with_reducible rfl
                 rotate_left
                 ·simp only [Act.put, s1_, s2_, s3_, i64_w, i32_w]
                  rfl
                 refine take_ (i := 38) (N := some 68) (v := ?_) (a' := ?_) (bs_ 39 17) rfl rfl (take_ofW HT_.out HW_.out (by kernel_rfl)) (fun _ _ _ h => h) (Or.inl ⟨by rfl, ?_⟩) hHeld ?_ ?_
                 rotate_left
                 ·rintro w' ⟨s0, s1, s2, s3, s4, s5, s6, s7, s8, s9, s10, s11, s12, s13, s14, s15, s16⟩
                  go_simp
                  with_reducible rfl
                 rotate_left
                 ·simp only [Act.put, s1_, s2_, s3_, i64_w, i32_w]
                  rfl
                 refine pu_ 39 (some 69) ?_ (bs_ 40 16) rfl rfl (any_of HT_.out (by kernel_rfl)) (fun _ _ _ h => h) (y_ (by rfl) ?_) ?_ ?_ ?_
                 rotate_left
                 ·intro w'
                  go_simp
                  with_reducible rfl
                 rotate_left
                 ·simp only [Act.put, s1_, s2_, s3_, i64_w, i32_w]
                  rfl
                 refine pu_ 40 (some 70) ?_ (bs_ 41 15) rfl rfl (any_of HT_.out (by kernel_rfl)) (fun _ _ _ h => h) (y_ (by rfl) ?_) ?_ ?_ ?_
                 rotate_left
                 ·intro w'
                  go_simp
                  with_reducible rfl
                 rotate_left
                 ·simp only [Act.put, s1_, s2_, s3_, i64_w, i32_w]
                  rfl
                 refine pu_ 41 (some 71) ?_ (bs_ 42 14) rfl rfl (any_of HT_.out (by kernel_rfl)) (fun _ _ _ h => h) (y_ (by rfl) ?_) ?_ ?_ ?_
                 rotate_left
                 ·intro w'
                  go_simp
                  with_reducible rfl
                 rotate_left
                 ·simp only [Act.put, s1_, s2_, s3_, i64_w, i32_w]
                  rfl
                 refine pu_ 42 (some 72) ?_ (bs_ 43 13) rfl rfl (any_of HT_.out (by kernel_rfl)) (fun _ _ _ h => h) (y_ (by rfl) ?_) ?_ ?_ ?_
                 rotate_left
                 ·intro w'
                  go_simp
                  with_reducible rfl
                 rotate_left
                 ·simp only [Act.put, s1_, s2_, s3_, i64_w, i32_w]
                  rfl
                 refine pu_ 43 (some 73) ?_ (bs_ 44 12) rfl rfl (any_of HT_.out (by kernel_rfl)) (fun _ _ _ h => h) (y_ (by rfl) ?_) ?_ ?_ ?_
                 rotate_left
                 ·intro w'
                  go_simp
                  with_reducible rfl
                 rotate_left
                 ·simp only [Act.put, s1_, s2_, s3_, i64_w, i32_w]
                  rfl
                 refine pu_ 44 (some 74) ?_ (bs_ 45 11) rfl rfl (any_of HT_.out (by kernel_rfl)) (fun _ _ _ h => h) (y_ (by rfl) ?_) ?_ ?_ ?_
                 rotate_left
                 ·intro w'
                  go_simp
                  with_reducible rfl
                 rotate_left
                 ·simp only [Act.put, s1_, s2_, s3_, i64_w, i32_w]
                  rfl
                 refine pu_ 46 (some 76) ?_ #[true, true, true, true, true, true, true, true, true, true, true, true, true, true, true, true, true, true, true, true, true, true, true, true, true, true, true, true, true, true, true, true, true, true, true, true, true, true, true, true, true, true, true, true, true, false, true, false, false, false, false, false, false, false, false, false] rfl rfl (any_of HT_.out (by kernel_rfl)) (fun _ _ _ h => h) (y_ (by rfl) ?_) ?_ ?_ ?_
                 rotate_left
                 ·intro w'
                  go_simp
                  with_reducible rfl
                 rotate_left
                 ·simp only [Act.put, s1_, s2_, s3_, i64_w, i32_w]
                  rfl
                 refine pu_ 47 (some 77) ?_ #[true, true, true, true, true, true, true, true, true, true, true, true, true, true, true, true, true, true, true, true, true, true, true, true, true, true, true, true, true, true, true, true, true, true, true, true, true, true, true, true, true, true, true, true, true, false, true, true, false, false, false, false, false, false, false, false] rfl rfl (any_of HT_.out (by kernel_rfl)) (fun _ _ _ h => h) (y_ (by rfl) ?_) ?_ ?_ ?_
                 rotate_left
                 ·intro w'
                  go_simp
                  with_reducible rfl
                 rotate_left
                 ·simp only [Act.put, s1_, s2_, s3_, i64_w, i32_w]
                  rfl
                 refine pu_ 48 (some 78) ?_ #[true, true, true, true, true, true, true, true, true, true, true, true, true, true, true, true, true, true, true, true, true, true, true, true, true, true, true, true, true, true, true, true, true, true, true, true, true, true, true, true, true, true, true, true, true, false, true, true, true, false, false, false, false, false, false, false] rfl rfl (any_of HT_.out (by kernel_rfl)) (fun _ _ _ h => h) (y_ (by rfl) ?_) ?_ ?_ ?_
                 rotate_left
                 ·intro w'
                  go_simp
                  with_reducible rfl
                 rotate_left
                 ·simp only [Act.put, s1_, s2_, s3_, i64_w, i32_w]
                  rfl
                 refine pu_ 49 (some 79) ?_ #[true, true, true, true, true, true, true, true, true, true, true, true, true, true, true, true, true, true, true, true, true, true, true, true, true, true, true, true, true, true, true, true, true, true, true, true, true, true, true, true, true, true, true, true, true, false, true, true, true, true, false, false, false, false, false, false] rfl rfl (any_of HT_.out (by kernel_rfl)) (fun _ _ _ h => h) (y_ (by rfl) ?_) ?_ ?_ ?_
                 rotate_left
                 ·intro w'
                  go_simp
                  with_reducible rfl
                 rotate_left
                 ·simp only [Act.put, s1_, s2_, s3_, i64_w, i32_w]
                  rfl
                 refine take_ (i := 45) (N := some 75) (v := ?_) (a' := ?_) (bs_ 50 6) rfl rfl (take_ofW HT_.out HW_.out (by kernel_rfl)) (fun _ _ _ h => h) (Or.inl ⟨by rfl, ?_⟩) hHeld ?_ ?_
                 rotate_left
                 ·rintro w' ⟨s0, s1, s2, s3, s4, s5, s6, s7, s8, s9, s10, s11, s12, s13, s14, s15, s16⟩
                  go_simp
                  with_reducible rfl
                 rotate_left
                 ·simp only [Act.put, s1_, s2_, s3_, i64_w, i32_w]
                  rfl
                 refine take_ (i := 50) (N := some 80) (v := ?_) (a' := ?_) (bs_ 51 5) rfl rfl (take_ofW HT_.out HW_.out (by kernel_rfl)) (fun _ _ _ h => h) (Or.inl ⟨by rfl, ?_⟩) hHeld ?_ ?_
                 rotate_left
                 ·rintro w' ⟨s0, s1, s2, s3, s4, s5, s6, s7, s8, s9, s10, s11, s12, s13, s14, s15, s16⟩
                  go_simp
                  with_reducible rfl
                 rotate_left
                 ·simp only [Act.put, s1_, s2_, s3_, i64_w, i32_w]
                  rfl
                 refine pu_ 51 (some 81) ?_ (bs_ 52 4) rfl rfl (any_of HT_.out (by kernel_rfl)) (fun _ _ _ h => h) (y_ (by rfl) ?_) ?_ ?_ ?_
                 rotate_left
                 ·intro w'
                  go_simp
                  with_reducible rfl
                 rotate_left
                 ·simp only [Act.put, s1_, s2_, s3_, i64_w, i32_w]
                  rfl
                 refine one_ (i := 52) (N := some 82) (bs_ 53 3) rfl rfl (one_of HT_.out (by kernel_rfl)) (by decide) (fun K hK => ?_)
                 refine goes_ Try.func19 (by kernel_rfl) rfl #[.int .i64 ((rdOf ByteArray.empty l3 x14_2).size : Int)] (by rfl) rfl rfl (by (try simp only [List.map_toArray, List.map_cons, List.map_nil]); first | done | rfl | (simp only [List.length_drop, List.length_take]; rfl)) ?_
                 with_reducible refine (frame_Size.calls ((rdOf ByteArray.empty l3 x14_2).size : Int) t205 _ A20.out).mono ?_
                 rintro e w' ⟨rfl, ⟨nd, rfl⟩⟩
                 refine ⟨_, rfl, ?_⟩
                 refine hK.out _ _ ⟨((HB.out.cell (World.block_lt_of_cell? w _ hw197_0)).trans hw197_0), ((HB.out.cell (World.block_lt_of_cell? w _ hw197_1)).trans hw197_1), ((HB.out.cell (World.block_lt_of_cell? w _ hw197_2)).trans hw197_2), ((HB.out.cell (World.block_lt_of_cell? w _ hw197_3)).trans hw197_3), ((HB.out.cell (World.block_lt_of_cell? w _ hw198_0)).trans hw198_0), ((HB.out.cell (World.block_lt_of_cell? w _ hw198_1)).trans hw198_1), ((HB.out.cell (World.block_lt_of_cell? w _ hw198_2)).trans hw198_2), ((HB.out.cell (World.block_lt_of_cell? w _ hw198_3)).trans hw198_3), ((HB.out.cell (World.block_lt_of_cell? w _ hw199_0)).trans hw199_0), ((HB.out.cell (World.block_lt_of_cell? w _ hw200_0)).trans hw200_0), ((HB.out.cell (World.block_lt_of_cell? w _ hw200_1)).trans hw200_1), ((HB.out.cell (World.block_lt_of_cell? w _ hw200_2)).trans hw200_2), ((HB.out.cell (World.block_lt_of_cell? w _ hw200_3)).trans hw200_3), ((HB.out.cell (World.block_lt_of_cell? w _ hw201_0)).trans hw201_0), ((HB.out.cell (World.block_lt_of_cell? w _ hw202_0)).trans hw202_0), ((HB.out.cell (World.block_lt_of_cell? w _ hw203_0)).trans hw203_0), ((HB.out.cell (World.block_lt_of_cell? w _ hw204_0)).trans hw204_0)⟩ (fun hHeld => ?_)
                 clear hK K
                 refine norm_ (a' := ?_) ?_ ?_
                 rotate_left
                 ·show Act.put _ (some 82) _ = _
                  simp only [Act.put, s1_, s2_, s3_, i64_w, i32_w]
                  rfl
                 refine pu_ 53 (some 83) ?_ (bs_ 54 2) rfl rfl (any_of HT_.out (by kernel_rfl)) (fun _ _ _ h => h) (y_ (by rfl) ?_) ?_ ?_ ?_
                 rotate_left
                 ·intro w'
                  go_simp
                  with_reducible rfl
                 rotate_left
                 ·simp only [Act.put, s1_, s2_, s3_, i64_w, i32_w]
                  rfl
                 refine pu_ 54 (some 84) ?_ (bs_ 55 1) rfl rfl (any_of HT_.out (by kernel_rfl)) (fun _ _ _ h => h) (y_ (by rfl) ?_) ?_ ?_ ?_
                 rotate_left
                 ·intro w'
                  go_simp
                  with_reducible rfl
                 rotate_left
                 ·simp only [Act.put, s1_, s2_, s3_, i64_w, i32_w]
                  rfl
                 refine pu_ 55 (some 85) ?_ (bs_ 56 0) rfl rfl (any_of HT_.out (by kernel_rfl)) (fun _ _ _ h => h) (y_ (by rfl) ?_) ?_ ?_ ?_
                 rotate_left
                 ·intro w'
                  go_simp
                  with_reducible rfl
                 rotate_left
                 ·simp only [Act.put, s1_, s2_, s3_, i64_w, i32_w]
                  rfl
                 refine done_ (done_of HT_.out (by kernel_rfl)) ?_
                 have p206 : 0 ≤ (x14_2 : Int) := of_decide_eq_true (by first | (with_reducible assumption) | assumption)
                 have q206 : x14_2 < (l4.length : Int) := of_decide_eq_true (by first | (with_reducible assumption) | assumption)
                 obtain ⟨ad206, e206, hx206_0⟩ := Kd.at_int HR4.out x14_2 p206 q206
                 obtain rfl : ad202 = ad206 := (by injection e206)
                 replace hx206_0 := (HB.out.cell (World.block_lt_of_cell? w _ hx206_0)).trans hx206_0
                 replace p206 := eq_true p206
                 replace q206 := eq_true q206
                 try go_wp2
                 go_roundg k2
                 case measure => have := HJ6.out; have := HK2.out; omega
                 case rel => exact ⟨(rd l4 x14_2), (wrap64 (x14_2 + 1)), (by first | rfl | (simp; done) | (simp [*]; done)), (by first | rfl | (simp; done) | (simp [*]; done)), H', ⟨by have := HJ6.out; have := HK2.out; omega⟩, ⟨by repeat (first | (with_reducible first | exact HB.out | apply below_alloc | apply pw_below_drewN | apply below_drew1) | exact HB.out)⟩⟩
                ·rw [if_neg c21] at H
                 have c21b0 : ((rd l4 x14_2) == (wrap64 (x13_2 + t205))) = false := beq_eq_false_iff_ne.mpr c21
                 have c21b1 : ((rd l4 x14_2) != (wrap64 (x13_2 + t205))) = true := bne_iff_ne.mpr c21
                 obtain rfl := Option.some.inj H
                 try go_wp2
                 have n0_ := Aside0.mk (below_drew1 HB.out)
                 clear HB
                 have HB := n0_
                 clear n0_
                 have p197 : 0 ≤ (x14_2 : Int) := of_decide_eq_true (by first | (with_reducible assumption) | assumption)
                 have q197 : x14_2 < (l0.length : Int) := of_decide_eq_true (by first | (with_reducible assumption) | assumption)
                 obtain ⟨ad197, e197, hx197_0, hx197_1, hx197_2, hx197_3⟩ := at_T49 HR0.out x14_2 p197 q197
                 have hw197_3 := hx197_3
                 have hw197_2 := hx197_2
                 have hw197_1 := hx197_1
                 have hw197_0 := hx197_0
                 cases e197
                 replace hx197_0 := (HB.out.cell (World.block_lt_of_cell? w _ hx197_0)).trans hx197_0
                 replace hx197_1 := (HB.out.cell (World.block_lt_of_cell? w _ hx197_1)).trans hx197_1
                 replace hx197_2 := (HB.out.cell (World.block_lt_of_cell? w _ hx197_2)).trans hx197_2
                 replace hx197_3 := (HB.out.cell (World.block_lt_of_cell? w _ hx197_3)).trans hx197_3
                 replace p197 := eq_true p197
                 replace q197 := eq_true q197
                 have p198 : 0 ≤ (x14_2 : Int) := of_decide_eq_true (by first | (with_reducible assumption) | assumption)
                 have q198 : x14_2 < (l0.length : Int) := of_decide_eq_true (by first | (with_reducible assumption) | assumption)
                 obtain ⟨ad198, e198, hx198_0, hx198_1, hx198_2, hx198_3⟩ := at_T49 HR0.out x14_2 p198 q198
                 have hw198_3 := hx198_3
                 have hw198_2 := hx198_2
                 have hw198_1 := hx198_1
                 have hw198_0 := hx198_0
                 obtain rfl : ad197 = ad198 := (by injection e198)
                 replace hx198_0 := (HB.out.cell (World.block_lt_of_cell? w _ hx198_0)).trans hx198_0
                 replace hx198_1 := (HB.out.cell (World.block_lt_of_cell? w _ hx198_1)).trans hx198_1
                 replace hx198_2 := (HB.out.cell (World.block_lt_of_cell? w _ hx198_2)).trans hx198_2
                 replace hx198_3 := (HB.out.cell (World.block_lt_of_cell? w _ hx198_3)).trans hx198_3
                 replace p198 := eq_true p198
                 replace q198 := eq_true q198
                 have p199 : 0 ≤ (x14_2 : Int) := of_decide_eq_true (by first | (with_reducible assumption) | assumption)
                 have q199 : x14_2 < (l3.length : Int) := of_decide_eq_true (by first | (with_reducible assumption) | assumption)
                 obtain ⟨ad199, e199, hx199_0⟩ := Kd.at_string HR3.out x14_2 p199 q199
                 have hw199_0 := hx199_0
                 cases e199
                 replace hx199_0 := (HB.out.cell (World.block_lt_of_cell? w _ hx199_0)).trans hx199_0
                 replace p199 := eq_true p199
                 replace q199 := eq_true q199
                 have p200 : 0 ≤ (x14_2 : Int) := of_decide_eq_true (by first | (with_reducible assumption) | assumption)
                 have q200 : x14_2 < (l0.length : Int) := of_decide_eq_true (by first | (with_reducible assumption) | assumption)
                 obtain ⟨ad200, e200, hx200_0, hx200_1, hx200_2, hx200_3⟩ := at_T49 HR0.out x14_2 p200 q200
                 have hw200_3 := hx200_3
                 have hw200_2 := hx200_2
                 have hw200_1 := hx200_1
                 have hw200_0 := hx200_0
                 obtain rfl : ad197 = ad200 := (by injection e200)
                 replace hx200_0 := (HB.out.cell (World.block_lt_of_cell? w _ hx200_0)).trans hx200_0
                 replace hx200_1 := (HB.out.cell (World.block_lt_of_cell? w _ hx200_1)).trans hx200_1
                 replace hx200_2 := (HB.out.cell (World.block_lt_of_cell? w _ hx200_2)).trans hx200_2
                 replace hx200_3 := (HB.out.cell (World.block_lt_of_cell? w _ hx200_3)).trans hx200_3
                 replace p200 := eq_true p200
                 replace q200 := eq_true q200
                 have p201 : 0 ≤ (x14_2 : Int) := of_decide_eq_true (by first | (with_reducible assumption) | assumption)
                 have q201 : x14_2 < (l1.length : Int) := of_decide_eq_true (by first | (with_reducible assumption) | assumption)
                 obtain ⟨ad201, e201, hx201_0⟩ := Kd.at_int HR1.out x14_2 p201 q201
                 have hw201_0 := hx201_0
                 cases e201
                 replace hx201_0 := (HB.out.cell (World.block_lt_of_cell? w _ hx201_0)).trans hx201_0
                 replace p201 := eq_true p201
                 replace q201 := eq_true q201
                 have p202 : 0 ≤ (x14_2 : Int) := of_decide_eq_true (by first | (with_reducible assumption) | assumption)
                 have q202 : x14_2 < (l4.length : Int) := of_decide_eq_true (by first | (with_reducible assumption) | assumption)
                 obtain ⟨ad202, e202, hx202_0⟩ := Kd.at_int HR4.out x14_2 p202 q202
                 have hw202_0 := hx202_0
                 cases e202
                 replace hx202_0 := (HB.out.cell (World.block_lt_of_cell? w _ hx202_0)).trans hx202_0
                 replace p202 := eq_true p202
                 replace q202 := eq_true q202
                 have p203 : 0 ≤ (x14_2 : Int) := of_decide_eq_true (by first | (with_reducible assumption) | assumption)
                 have q203 : x14_2 < (l4.length : Int) := of_decide_eq_true (by first | (with_reducible assumption) | assumption)
                 obtain ⟨ad203, e203, hx203_0⟩ := Kd.at_int HR4.out x14_2 p203 q203
                 have hw203_0 := hx203_0
                 obtain rfl : ad202 = ad203 := (by injection e203)
                 replace hx203_0 := (HB.out.cell (World.block_lt_of_cell? w _ hx203_0)).trans hx203_0
                 replace p203 := eq_true p203
                 replace q203 := eq_true q203
                 have p204 : 0 ≤ (x14_2 : Int) := of_decide_eq_true (by first | (with_reducible assumption) | assumption)
                 have q204 : x14_2 < (l3.length : Int) := of_decide_eq_true (by first | (with_reducible assumption) | assumption)
                 obtain ⟨ad204, e204, hx204_0⟩ := Kd.at_string HR3.out x14_2 p204 q204
                 have hw204_0 := hx204_0
                 obtain rfl : ad199 = ad204 := (by injection e204)
                 replace hx204_0 := (HB.out.cell (World.block_lt_of_cell? w _ hx204_0)).trans hx204_0
                 replace p204 := eq_true p204
                 replace q204 := eq_true q204
                 refine start_ (n := 56) (S := fun w' => w'.cell? (ad197.add ((x14_2).toNat * 4)) = some (.int .i64 ((rd_T49 l0 x14_2).f0)) ∧ w'.cell? ⟨(ad197.add ((x14_2).toNat * 4)).block, (ad197.add ((x14_2).toNat * 4)).off + 1, none⟩ = some (.int .i64 ((rd_T49 l0 x14_2).f1)) ∧ w'.cell? ⟨(ad197.add ((x14_2).toNat * 4)).block, (ad197.add ((x14_2).toNat * 4)).off + 2, none⟩ = some (.int .i64 ((rd_T49 l0 x14_2).f2)) ∧ w'.cell? ⟨(ad197.add ((x14_2).toNat * 4)).block, (ad197.add ((x14_2).toNat * 4)).off + 3, none⟩ = some (.string ((rd_T49 l0 x14_2).f3)) ∧ w'.cell? (ad197.add ((x14_2).toNat * 4)) = some (.int .i64 ((rd_T49 l0 x14_2).f0)) ∧ w'.cell? ⟨(ad197.add ((x14_2).toNat * 4)).block, (ad197.add ((x14_2).toNat * 4)).off + 1, none⟩ = some (.int .i64 ((rd_T49 l0 x14_2).f1)) ∧ w'.cell? ⟨(ad197.add ((x14_2).toNat * 4)).block, (ad197.add ((x14_2).toNat * 4)).off + 2, none⟩ = some (.int .i64 ((rd_T49 l0 x14_2).f2)) ∧ w'.cell? ⟨(ad197.add ((x14_2).toNat * 4)).block, (ad197.add ((x14_2).toNat * 4)).off + 3, none⟩ = some (.string ((rd_T49 l0 x14_2).f3)) ∧ w'.cell? (ad199.add (x14_2).toNat) = some (.string (rdOf ByteArray.empty l3 x14_2)) ∧ w'.cell? (ad197.add ((x14_2).toNat * 4)) = some (.int .i64 ((rd_T49 l0 x14_2).f0)) ∧ w'.cell? ⟨(ad197.add ((x14_2).toNat * 4)).block, (ad197.add ((x14_2).toNat * 4)).off + 1, none⟩ = some (.int .i64 ((rd_T49 l0 x14_2).f1)) ∧ w'.cell? ⟨(ad197.add ((x14_2).toNat * 4)).block, (ad197.add ((x14_2).toNat * 4)).off + 2, none⟩ = some (.int .i64 ((rd_T49 l0 x14_2).f2)) ∧ w'.cell? ⟨(ad197.add ((x14_2).toNat * 4)).block, (ad197.add ((x14_2).toNat * 4)).off + 3, none⟩ = some (.string ((rd_T49 l0 x14_2).f3)) ∧ w'.cell? (ad201.add (x14_2).toNat) = some (.int .i64 (rd l1 x14_2)) ∧ w'.cell? (ad202.add (x14_2).toNat) = some (.int .i64 (rd l4 x14_2)) ∧ w'.cell? (ad202.add (x14_2).toNat) = some (.int .i64 (rd l4 x14_2)) ∧ w'.cell? (ad199.add (x14_2).toNat) = some (.string (rdOf ByteArray.empty l3 x14_2))) (ds := []) (bs_ 0 56) (by kernel_rfl) rfl rfl ⟨((HB.out.cell (World.block_lt_of_cell? w _ hw197_0)).trans hw197_0), ((HB.out.cell (World.block_lt_of_cell? w _ hw197_1)).trans hw197_1), ((HB.out.cell (World.block_lt_of_cell? w _ hw197_2)).trans hw197_2), ((HB.out.cell (World.block_lt_of_cell? w _ hw197_3)).trans hw197_3), ((HB.out.cell (World.block_lt_of_cell? w _ hw198_0)).trans hw198_0), ((HB.out.cell (World.block_lt_of_cell? w _ hw198_1)).trans hw198_1), ((HB.out.cell (World.block_lt_of_cell? w _ hw198_2)).trans hw198_2), ((HB.out.cell (World.block_lt_of_cell? w _ hw198_3)).trans hw198_3), ((HB.out.cell (World.block_lt_of_cell? w _ hw199_0)).trans hw199_0), ((HB.out.cell (World.block_lt_of_cell? w _ hw200_0)).trans hw200_0), ((HB.out.cell (World.block_lt_of_cell? w _ hw200_1)).trans hw200_1), ((HB.out.cell (World.block_lt_of_cell? w _ hw200_2)).trans hw200_2), ((HB.out.cell (World.block_lt_of_cell? w _ hw200_3)).trans hw200_3), ((HB.out.cell (World.block_lt_of_cell? w _ hw201_0)).trans hw201_0), ((HB.out.cell (World.block_lt_of_cell? w _ hw202_0)).trans hw202_0), ((HB.out.cell (World.block_lt_of_cell? w _ hw203_0)).trans hw203_0), ((HB.out.cell (World.block_lt_of_cell? w _ hw204_0)).trans hw204_0)⟩ (fun hHeld => ?_); refine with_tabW postbaglaw10_whole.tab7 postbaglaw10_whole.bits7 (fun HT_ HW_ => ?_)
                 generalize wr.drew = w23 at HB hx197_0 hx197_1 hx197_2 hx197_3 hx198_0 hx198_1 hx198_2 hx198_3 hx199_0 hx200_0 hx200_1 hx200_2 hx200_3 hx201_0 hx202_0 hx203_0 hx204_0 hHeld ⊢
                 refine pu_ 0 (some 30) ?_ (bs_ 1 55) rfl rfl (any_of HT_.out (by kernel_rfl)) (fun _ _ _ h => h) (y_ (by rfl) ?_) ?_ ?_ ?_
                 rotate_left
                 ·intro w'
                  go_simp
                  with_reducible rfl
                 rotate_left
                 ·simp only [Act.put, s1_, s2_, s3_, i64_w, i32_w]
                  rfl
                 refine pu_ 1 (some 31) ?_ (bs_ 2 54) rfl rfl (any_of HT_.out (by kernel_rfl)) (fun _ _ _ h => h) (y_ (by rfl) ?_) ?_ ?_ ?_
                 rotate_left
                 ·intro w'
                  go_simp
                  with_reducible rfl
                 rotate_left
                 ·simp only [Act.put, s1_, s2_, s3_, i64_w, i32_w]
                  rfl
                 refine pu_ 2 (some 32) ?_ (bs_ 3 53) rfl rfl (any_of HT_.out (by kernel_rfl)) (fun _ _ _ h => h) (y_ (by rfl) ?_) ?_ ?_ ?_
                 rotate_left
                 ·intro w'
                  go_simp
                  with_reducible rfl
                 rotate_left
                 ·simp only [Act.put, s1_, s2_, s3_, i64_w, i32_w]
                  rfl
                 refine pu_ 3 (some 33) ?_ (bs_ 4 52) rfl rfl (any_of HT_.out (by kernel_rfl)) (fun _ _ _ h => h) (y_ (by rfl) ?_) ?_ ?_ ?_
                 rotate_left
                 ·intro w'
                  go_simp
                  with_reducible rfl
                 rotate_left
                 ·simp only [Act.put, s1_, s2_, s3_, i64_w, i32_w]
                  rfl
                 refine pu_ 5 (some 35) ?_ #[true, true, true, true, false, true, false, false, false, false, false, false, false, false, false, false, false, false, false, false, false, false, false, false, false, false, false, false, false, false, false, false, false, false, false, false, false, false, false, false, false, false, false, false, false, false, false, false, false, false, false, false, false, false, false, false] rfl rfl (any_of HT_.out (by kernel_rfl)) (fun _ _ _ h => h) (y_ (by rfl) ?_) ?_ ?_ ?_
                 rotate_left
                 ·intro w'
                  go_simp
                  with_reducible rfl
                 rotate_left
                 ·simp only [Act.put, s1_, s2_, s3_, i64_w, i32_w]
                  rfl
                 refine pu_ 6 (some 36) ?_ #[true, true, true, true, false, true, true, false, false, false, false, false, false, false, false, false, false, false, false, false, false, false, false, false, false, false, false, false, false, false, false, false, false, false, false, false, false, false, false, false, false, false, false, false, false, false, false, false, false, false, false, false, false, false, false, false] rfl rfl (any_of HT_.out (by kernel_rfl)) (fun _ _ _ h => h) (y_ (by rfl) ?_) ?_ ?_ ?_
                 rotate_left
                 ·intro w'
                  go_simp
                  with_reducible rfl
                 rotate_left
                 ·simp only [Act.put, s1_, s2_, s3_, i64_w, i32_w]
                  rfl
                 refine pu_ 7 (some 37) ?_ #[true, true, true, true, false, true, true, true, false, false, false, false, false, false, false, false, false, false, false, false, false, false, false, false, false, false, false, false, false, false, false, false, false, false, false, false, false, false, false, false, false, false, false, false, false, false, false, false, false, false, false, false, false, false, false, false] rfl rfl (any_of HT_.out (by kernel_rfl)) (fun _ _ _ h => h) (y_ (by rfl) ?_) ?_ ?_ ?_
                 rotate_left
                 ·intro w'
                  go_simp
                  with_reducible rfl
                 rotate_left
                 ·simp only [Act.put, s1_, s2_, s3_, i64_w, i32_w]
                  rfl
                 refine take_ (i := 4) (N := some 34) (v := ?_) (a' := ?_) (bs_ 8 48) rfl rfl (take_ofW HT_.out HW_.out (by kernel_rfl)) (fun _ _ _ h => h) (Or.inl ⟨by rfl, ?_⟩) hHeld ?_ ?_
                 rotate_left
                 ·rintro w' ⟨s0, s1, s2, s3, s4, s5, s6, s7, s8, s9, s10, s11, s12, s13, s14, s15, s16⟩
                  go_simp
                  with_reducible rfl
                 rotate_left
                 ·simp only [Act.put, s1_, s2_, s3_, i64_w, i32_w]
                  rfl
                 refine pu_ 8 (some 38) ?_ (bs_ 9 47) rfl rfl (any_of HT_.out (by kernel_rfl)) (fun _ _ _ h => h) (y_ (by rfl) ?_) ?_ ?_ ?_
                 rotate_left
                 ·intro w'
                  go_simp
                  with_reducible rfl
                 rotate_left
                 ·simp only [Act.put, s1_, s2_, s3_, i64_w, i32_w]
                  rfl
                 refine pu_ 9 (some 39) ?_ (bs_ 10 46) rfl rfl (any_of HT_.out (by kernel_rfl)) (fun _ _ _ h => h) (y_ (by rfl) ?_) ?_ ?_ ?_
                 rotate_left
                 ·intro w'
                  go_simp
                  with_reducible rfl
                 rotate_left
                 ·simp only [Act.put, s1_, s2_, s3_, i64_w, i32_w]
                  rfl
                 refine pu_ 10 (some 40) ?_ (bs_ 11 45) rfl rfl (any_of HT_.out (by kernel_rfl)) (fun _ _ _ h => h) (y_ (by rfl) ?_) ?_ ?_ ?_
                 rotate_left
                 ·intro w'
                  go_simp
                  with_reducible rfl
                 rotate_left
                 ·simp only [Act.put, s1_, s2_, s3_, i64_w, i32_w]
                  rfl
                 refine pu_ 11 (some 41) ?_ (bs_ 12 44) rfl rfl (any_of HT_.out (by kernel_rfl)) (fun _ _ _ h => h) (y_ (by rfl) ?_) ?_ ?_ ?_
                 rotate_left
                 ·intro w'
                  go_simp
                  with_reducible rfl
                 rotate_left
                 ·simp only [Act.put, s1_, s2_, s3_, i64_w, i32_w]
                  rfl
                 refine pu_ 12 (some 42) ?_ (bs_ 13 43) rfl rfl (any_of HT_.out (by kernel_rfl)) (fun _ _ _ h => h) (y_ (by rfl) ?_) ?_ ?_ ?_
                 rotate_left
                 ·intro w'
                  go_simp
                  with_reducible rfl
                 rotate_left
                 ·simp only [Act.put, s1_, s2_, s3_, i64_w, i32_w]
                  rfl
                 refine pu_ 13 (some 43) ?_ (bs_ 14 42) rfl rfl (any_of HT_.out (by kernel_rfl)) (fun _ _ _ h => h) (y_ (by rfl) ?_) ?_ ?_ ?_
                 rotate_left
                 ·intro w'
                  go_simp
                  with_reducible rfl
                 rotate_left
                 ·simp only [Act.put, s1_, s2_, s3_, i64_w, i32_w]
                  rfl
                 refine pu_ 15 (some 45) ?_ #[true, true, true, true, true, true, true, true, true, true, true, true, true, true, false, true, false, false, false, false, false, false, false, false, false, false, false, false, false, false, false, false, false, false, false, false, false, false, false, false, false, false, false, false, false, false, false, false, false, false, false, false, false, false, false, false] rfl rfl (any_of HT_.out (by kernel_rfl)) (fun _ _ _ h => h) (y_ (by rfl) ?_) ?_ ?_ ?_
                 rotate_left
                 ·intro w'
                  go_simp
                  with_reducible rfl
                 rotate_left
                 ·simp only [Act.put, s1_, s2_, s3_, i64_w, i32_w]
                  rfl
                 refine pu_ 16 (some 46) ?_ #[true, true, true, true, true, true, true, true, true, true, true, true, true, true, false, true, true, false, false, false, false, false, false, false, false, false, false, false, false, false, false, false, false, false, false, false, false, false, false, false, false, false, false, false, false, false, false, false, false, false, false, false, false, false, false, false] rfl rfl (any_of HT_.out (by kernel_rfl)) (fun _ _ _ h => h) (y_ (by rfl) ?_) ?_ ?_ ?_
                 rotate_left
                 ·intro w'
                  go_simp
                  with_reducible rfl
                 rotate_left
                 ·simp only [Act.put, s1_, s2_, s3_, i64_w, i32_w]
                  rfl
                 refine pu_ 17 (some 47) ?_ #[true, true, true, true, true, true, true, true, true, true, true, true, true, true, false, true, true, true, false, false, false, false, false, false, false, false, false, false, false, false, false, false, false, false, false, false, false, false, false, false, false, false, false, false, false, false, false, false, false, false, false, false, false, false, false, false] rfl rfl (any_of HT_.out (by kernel_rfl)) (fun _ _ _ h => h) (y_ (by rfl) ?_) ?_ ?_ ?_
                 rotate_left
                 ·intro w'
                  go_simp
                  with_reducible rfl
                 rotate_left
                 ·simp only [Act.put, s1_, s2_, s3_, i64_w, i32_w]
                  rfl
                 refine take_ (i := 14) (N := some 44) (v := ?_) (a' := ?_) (bs_ 18 38) rfl rfl (take_ofW HT_.out HW_.out (by kernel_rfl)) (fun _ _ _ h => h) (Or.inl ⟨by rfl, ?_⟩) hHeld ?_ ?_
                 rotate_left
                 ·rintro w' ⟨s0, s1, s2, s3, s4, s5, s6, s7, s8, s9, s10, s11, s12, s13, s14, s15, s16⟩
                  go_simp
                  with_reducible rfl
                 rotate_left
                 ·simp only [Act.put, s1_, s2_, s3_, i64_w, i32_w]
                  rfl
                 refine take_ (i := 18) (N := some 48) (v := ?_) (a' := ?_) (bs_ 19 37) rfl rfl (take_ofW HT_.out HW_.out (by kernel_rfl)) (fun _ _ _ h => h) (Or.inl ⟨by rfl, ?_⟩) hHeld ?_ ?_
                 rotate_left
                 ·rintro w' ⟨s0, s1, s2, s3, s4, s5, s6, s7, s8, s9, s10, s11, s12, s13, s14, s15, s16⟩
                  go_simp
                  with_reducible rfl
                 rotate_left
                 ·simp only [Act.put, s1_, s2_, s3_, i64_w, i32_w]
                  rfl
                 refine pu_ 19 (some 49) ?_ (bs_ 20 36) rfl rfl (any_of HT_.out (by kernel_rfl)) (fun _ _ _ h => h) (y_ (by rfl) ?_) ?_ ?_ ?_
                 rotate_left
                 ·intro w'
                  go_simp
                  with_reducible rfl
                 rotate_left
                 ·simp only [Act.put, s1_, s2_, s3_, i64_w, i32_w]
                  rfl
                 refine pu_ 20 (some 50) ?_ (bs_ 21 35) rfl rfl (any_of HT_.out (by kernel_rfl)) (fun _ _ _ h => h) (y_ (by rfl) ?_) ?_ ?_ ?_
                 rotate_left
                 ·intro w'
                  go_simp
                  with_reducible rfl
                 rotate_left
                 ·simp only [Act.put, s1_, s2_, s3_, i64_w, i32_w]
                  rfl
                 refine pu_ 21 (some 51) ?_ (bs_ 22 34) rfl rfl (any_of HT_.out (by kernel_rfl)) (fun _ _ _ h => h) (y_ (by rfl) ?_) ?_ ?_ ?_
                 rotate_left
                 ·intro w'
                  go_simp
                  with_reducible rfl
                 rotate_left
                 ·simp only [Act.put, s1_, s2_, s3_, i64_w, i32_w]
                  rfl
                 refine pu_ 22 (some 52) ?_ (bs_ 23 33) rfl rfl (any_of HT_.out (by kernel_rfl)) (fun _ _ _ h => h) (y_ (by rfl) ?_) ?_ ?_ ?_
                 rotate_left
                 ·intro w'
                  go_simp
                  with_reducible rfl
                 rotate_left
                 ·simp only [Act.put, s1_, s2_, s3_, i64_w, i32_w]
                  rfl
                 refine pu_ 23 (some 53) ?_ (bs_ 24 32) rfl rfl (any_of HT_.out (by kernel_rfl)) (fun _ _ _ h => h) (y_ (by rfl) ?_) ?_ ?_ ?_
                 rotate_left
                 ·intro w'
                  go_simp
                  with_reducible rfl
                 rotate_left
                 ·simp only [Act.put, s1_, s2_, s3_, i64_w, i32_w]
                  rfl
                 refine pu_ 24 (some 54) ?_ (bs_ 25 31) rfl rfl (any_of HT_.out (by kernel_rfl)) (fun _ _ _ h => h) (y_ (by rfl) ?_) ?_ ?_ ?_
                 rotate_left
                 ·intro w'
                  go_simp
                  with_reducible rfl
                 rotate_left
                 ·simp only [Act.put, s1_, s2_, s3_, i64_w, i32_w]
                  rfl
                 refine pu_ 25 (some 55) ?_ (bs_ 26 30) rfl rfl (any_of HT_.out (by kernel_rfl)) (fun _ _ _ h => h) (y_ (by rfl) ?_) ?_ ?_ ?_
                 rotate_left
                 ·intro w'
                  go_simp
                  with_reducible rfl
                 rotate_left
                 ·simp only [Act.put, s1_, s2_, s3_, i64_w, i32_w]
                  rfl
                 refine pu_ 27 (some 57) ?_ #[true, true, true, true, true, true, true, true, true, true, true, true, true, true, true, true, true, true, true, true, true, true, true, true, true, true, false, true, false, false, false, false, false, false, false, false, false, false, false, false, false, false, false, false, false, false, false, false, false, false, false, false, false, false, false, false] rfl rfl (any_of HT_.out (by kernel_rfl)) (fun _ _ _ h => h) (y_ (by rfl) ?_) ?_ ?_ ?_
                 rotate_left
                 ·intro w'
                  go_simp
                  with_reducible rfl
                 rotate_left
                 ·simp only [Act.put, s1_, s2_, s3_, i64_w, i32_w]
                  rfl
                 refine take_ (i := 26) (N := some 56) (v := ?_) (a' := ?_) (bs_ 28 28) rfl rfl (take_ofW HT_.out HW_.out (by kernel_rfl)) (fun _ _ _ h => h) (Or.inl ⟨by rfl, ?_⟩) hHeld ?_ ?_
                 rotate_left
                 ·rintro w' ⟨s0, s1, s2, s3, s4, s5, s6, s7, s8, s9, s10, s11, s12, s13, s14, s15, s16⟩
                  go_simp
                  with_reducible rfl
                 rotate_left
                 ·simp only [Act.put, s1_, s2_, s3_, i64_w, i32_w]
                  rfl
                 refine pu_ 28 (some 58) ?_ (bs_ 29 27) rfl rfl (any_of HT_.out (by kernel_rfl)) (fun _ _ _ h => h) (y_ (by rfl) ?_) ?_ ?_ ?_
                 rotate_left
                 ·intro w'
                  go_simp
                  with_reducible rfl
                 rotate_left
                 ·simp only [Act.put, s1_, s2_, s3_, i64_w, i32_w]
                  rfl
                 refine pu_ 29 (some 59) ?_ (bs_ 30 26) rfl rfl (any_of HT_.out (by kernel_rfl)) (fun _ _ _ h => h) (y_ (by rfl) ?_) ?_ ?_ ?_
                 rotate_left
                 ·intro w'
                  go_simp
                  with_reducible rfl
                 rotate_left
                 ·simp only [Act.put, s1_, s2_, s3_, i64_w, i32_w]
                  rfl
                 refine pu_ 30 (some 60) ?_ (bs_ 31 25) rfl rfl (any_of HT_.out (by kernel_rfl)) (fun _ _ _ h => h) (y_ (by rfl) ?_) ?_ ?_ ?_
                 rotate_left
                 ·intro w'
                  go_simp
                  with_reducible rfl
                 rotate_left
                 ·simp only [Act.put, s1_, s2_, s3_, i64_w, i32_w]
                  rfl
                 refine pu_ 31 (some 61) ?_ (bs_ 32 24) rfl rfl (any_of HT_.out (by kernel_rfl)) (fun _ _ _ h => h) (y_ (by rfl) ?_) ?_ ?_ ?_
                 rotate_left
                 ·intro w'
                  go_simp
                  with_reducible rfl
                 rotate_left
                 ·simp only [Act.put, s1_, s2_, s3_, i64_w, i32_w]
                  rfl
                 refine pu_ 32 (some 62) ?_ (bs_ 33 23) rfl rfl (any_of HT_.out (by kernel_rfl)) (fun _ _ _ h => h) (y_ (by rfl) ?_) ?_ ?_ ?_
                 rotate_left
                 ·intro w'
                  go_simp
                  with_reducible rfl
                 rotate_left
                 ·simp only [Act.put, s1_, s2_, s3_, i64_w, i32_w]
                  rfl
                 refine pu_ 33 (some 63) ?_ (bs_ 34 22) rfl rfl (any_of HT_.out (by kernel_rfl)) (fun _ _ _ h => h) (y_ (by rfl) ?_) ?_ ?_ ?_
                 rotate_left
                 ·intro w'
                  go_simp
                  with_reducible rfl
                 rotate_left
                 ·simp only [Act.put, s1_, s2_, s3_, i64_w, i32_w]
                  rfl
                 refine pu_ 35 (some 65) ?_ #[true, true, true, true, true, true, true, true, true, true, true, true, true, true, true, true, true, true, true, true, true, true, true, true, true, true, true, true, true, true, true, true, true, true, false, true, false, false, false, false, false, false, false, false, false, false, false, false, false, false, false, false, false, false, false, false] rfl rfl (any_of HT_.out (by kernel_rfl)) (fun _ _ _ h => h) (y_ (by rfl) ?_) ?_ ?_ ?_
                 rotate_left
                 ·intro w'
                  go_simp
                  with_reducible rfl
                 rotate_left
                 ·simp only [Act.put, s1_, s2_, s3_, i64_w, i32_w]
                  rfl
                 refine pu_ 36 (some 66) ?_ #[true, true, true, true, true, true, true, true, true, true, true, true, true, true, true, true, true, true, true, true, true, true, true, true, true, true, true, true, true, true, true, true, true, true, false, true, true, false, false, false, false, false, false, false, false, false, false, false, false, false, false, false, false, false, false, false] rfl rfl (any_of HT_.out (by kernel_rfl)) (fun _ _ _ h => h) (y_ (by rfl) ?_) ?_ ?_ ?_
                 rotate_left
                 ·intro w'
                  go_simp
                  with_reducible rfl
                 rotate_left
                 ·simp only [Act.put, s1_, s2_, s3_, i64_w, i32_w]
                  rfl
                 refine pu_ 37 (some 67) ?_ #[true, true, true, true, true, true, true, true, true, true, true, true, true, true, true, true, true, true, true, true, true, true, true, true, true, true, true, true, true, true, true, true, true, true, false, true, true, true, false, false, false, false, false, false, false, false, false, false, false, false, false, false, false, false, false, false] rfl rfl (any_of HT_.out (by kernel_rfl)) (fun _ _ _ h => h) (y_ (by rfl) ?_) ?_ ?_ ?_
                 rotate_left
                 ·intro w'
                  go_simp
                  with_reducible rfl
                 rotate_left
                 ·simp only [Act.put, s1_, s2_, s3_, i64_w, i32_w]
                  rfl
                 refine take_ (i := 34) (N := some 64) (v := ?_) (a' := ?_) (bs_ 38 18) rfl rfl (take_ofW HT_.out HW_.out (by kernel_rfl)) (fun _ _ _ h => h) (Or.inl ⟨by rfl, ?_⟩) hHeld ?_ ?_
                 rotate_left
                 ·rintro w' ⟨s0, s1, s2, s3, s4, s5, s6, s7, s8, s9, s10, s11, s12, s13, s14, s15, s16⟩
                  go_simp
                  with_reducible rfl
                 rotate_left
                 ·simp only [Act.put, s1_, s2_, s3_, i64_w, i32_w]
                  rfl
                 refine take_ (i := 38) (N := some 68) (v := ?_) (a' := ?_) (bs_ 39 17) rfl rfl (take_ofW HT_.out HW_.out (by kernel_rfl)) (fun _ _ _ h => h) (Or.inl ⟨by rfl, ?_⟩) hHeld ?_ ?_
                 rotate_left
                 ·rintro w' ⟨s0, s1, s2, s3, s4, s5, s6, s7, s8, s9, s10, s11, s12, s13, s14, s15, s16⟩
                  go_simp
                  with_reducible rfl
                 rotate_left
                 ·simp only [Act.put, s1_, s2_, s3_, i64_w, i32_w]
                  rfl
                 refine pu_ 39 (some 69) ?_ (bs_ 40 16) rfl rfl (any_of HT_.out (by kernel_rfl)) (fun _ _ _ h => h) (y_ (by rfl) ?_) ?_ ?_ ?_
                 rotate_left
                 ·intro w'
                  go_simp
                  with_reducible rfl
                 rotate_left
                 ·simp only [Act.put, s1_, s2_, s3_, i64_w, i32_w]
                  rfl
                 refine pu_ 40 (some 70) ?_ (bs_ 41 15) rfl rfl (any_of HT_.out (by kernel_rfl)) (fun _ _ _ h => h) (y_ (by rfl) ?_) ?_ ?_ ?_
                 rotate_left
                 ·intro w'
                  go_simp
                  with_reducible rfl
                 rotate_left
                 ·simp only [Act.put, s1_, s2_, s3_, i64_w, i32_w]
                  rfl
                 refine pu_ 41 (some 71) ?_ (bs_ 42 14) rfl rfl (any_of HT_.out (by kernel_rfl)) (fun _ _ _ h => h) (y_ (by rfl) ?_) ?_ ?_ ?_
                 rotate_left
                 ·intro w'
                  go_simp
                  with_reducible rfl
                 rotate_left
                 ·simp only [Act.put, s1_, s2_, s3_, i64_w, i32_w]
                  rfl
                 refine pu_ 42 (some 72) ?_ (bs_ 43 13) rfl rfl (any_of HT_.out (by kernel_rfl)) (fun _ _ _ h => h) (y_ (by rfl) ?_) ?_ ?_ ?_
                 rotate_left
                 ·intro w'
                  go_simp
                  with_reducible rfl
                 rotate_left
                 ·simp only [Act.put, s1_, s2_, s3_, i64_w, i32_w]
                  rfl
                 refine pu_ 43 (some 73) ?_ (bs_ 44 12) rfl rfl (any_of HT_.out (by kernel_rfl)) (fun _ _ _ h => h) (y_ (by rfl) ?_) ?_ ?_ ?_
                 rotate_left
                 ·intro w'
                  go_simp
                  with_reducible rfl
                 rotate_left
                 ·simp only [Act.put, s1_, s2_, s3_, i64_w, i32_w]
                  rfl
                 refine pu_ 44 (some 74) ?_ (bs_ 45 11) rfl rfl (any_of HT_.out (by kernel_rfl)) (fun _ _ _ h => h) (y_ (by rfl) ?_) ?_ ?_ ?_
                 rotate_left
                 ·intro w'
                  go_simp
                  with_reducible rfl
                 rotate_left
                 ·simp only [Act.put, s1_, s2_, s3_, i64_w, i32_w]
                  rfl
                 refine pu_ 46 (some 76) ?_ #[true, true, true, true, true, true, true, true, true, true, true, true, true, true, true, true, true, true, true, true, true, true, true, true, true, true, true, true, true, true, true, true, true, true, true, true, true, true, true, true, true, true, true, true, true, false, true, false, false, false, false, false, false, false, false, false] rfl rfl (any_of HT_.out (by kernel_rfl)) (fun _ _ _ h => h) (y_ (by rfl) ?_) ?_ ?_ ?_
                 rotate_left
                 ·intro w'
                  go_simp
                  with_reducible rfl
                 rotate_left
                 ·simp only [Act.put, s1_, s2_, s3_, i64_w, i32_w]
                  rfl
                 refine pu_ 47 (some 77) ?_ #[true, true, true, true, true, true, true, true, true, true, true, true, true, true, true, true, true, true, true, true, true, true, true, true, true, true, true, true, true, true, true, true, true, true, true, true, true, true, true, true, true, true, true, true, true, false, true, true, false, false, false, false, false, false, false, false] rfl rfl (any_of HT_.out (by kernel_rfl)) (fun _ _ _ h => h) (y_ (by rfl) ?_) ?_ ?_ ?_
                 rotate_left
                 ·intro w'
                  go_simp
                  with_reducible rfl
                 rotate_left
                 ·simp only [Act.put, s1_, s2_, s3_, i64_w, i32_w]
                  rfl
                 refine pu_ 48 (some 78) ?_ #[true, true, true, true, true, true, true, true, true, true, true, true, true, true, true, true, true, true, true, true, true, true, true, true, true, true, true, true, true, true, true, true, true, true, true, true, true, true, true, true, true, true, true, true, true, false, true, true, true, false, false, false, false, false, false, false] rfl rfl (any_of HT_.out (by kernel_rfl)) (fun _ _ _ h => h) (y_ (by rfl) ?_) ?_ ?_ ?_
                 rotate_left
                 ·intro w'
                  go_simp
                  with_reducible rfl
                 rotate_left
                 ·simp only [Act.put, s1_, s2_, s3_, i64_w, i32_w]
                  rfl
                 refine pu_ 49 (some 79) ?_ #[true, true, true, true, true, true, true, true, true, true, true, true, true, true, true, true, true, true, true, true, true, true, true, true, true, true, true, true, true, true, true, true, true, true, true, true, true, true, true, true, true, true, true, true, true, false, true, true, true, true, false, false, false, false, false, false] rfl rfl (any_of HT_.out (by kernel_rfl)) (fun _ _ _ h => h) (y_ (by rfl) ?_) ?_ ?_ ?_
                 rotate_left
                 ·intro w'
                  go_simp
                  with_reducible rfl
                 rotate_left
                 ·simp only [Act.put, s1_, s2_, s3_, i64_w, i32_w]
                  rfl
                 refine take_ (i := 45) (N := some 75) (v := ?_) (a' := ?_) (bs_ 50 6) rfl rfl (take_ofW HT_.out HW_.out (by kernel_rfl)) (fun _ _ _ h => h) (Or.inl ⟨by rfl, ?_⟩) hHeld ?_ ?_
                 rotate_left
                 ·rintro w' ⟨s0, s1, s2, s3, s4, s5, s6, s7, s8, s9, s10, s11, s12, s13, s14, s15, s16⟩
                  go_simp
                  with_reducible rfl
                 rotate_left
                 ·simp only [Act.put, s1_, s2_, s3_, i64_w, i32_w]
                  rfl
                 refine take_ (i := 50) (N := some 80) (v := ?_) (a' := ?_) (bs_ 51 5) rfl rfl (take_ofW HT_.out HW_.out (by kernel_rfl)) (fun _ _ _ h => h) (Or.inl ⟨by rfl, ?_⟩) hHeld ?_ ?_
                 rotate_left
                 ·rintro w' ⟨s0, s1, s2, s3, s4, s5, s6, s7, s8, s9, s10, s11, s12, s13, s14, s15, s16⟩
                  go_simp
                  with_reducible rfl
                 rotate_left
                 ·simp only [Act.put, s1_, s2_, s3_, i64_w, i32_w]
                  rfl
                 refine pu_ 51 (some 81) ?_ (bs_ 52 4) rfl rfl (any_of HT_.out (by kernel_rfl)) (fun _ _ _ h => h) (y_ (by rfl) ?_) ?_ ?_ ?_
                 rotate_left
                 ·intro w'
                  go_simp
                  with_reducible rfl
                 rotate_left
                 ·simp only [Act.put, s1_, s2_, s3_, i64_w, i32_w]
                  rfl
                 refine one_ (i := 52) (N := some 82) (bs_ 53 3) rfl rfl (one_of HT_.out (by kernel_rfl)) (by decide) (fun K hK => ?_)
                 refine goes_ Try.func19 (by kernel_rfl) rfl #[.int .i64 ((rdOf ByteArray.empty l3 x14_2).size : Int)] (by rfl) rfl rfl (by (try simp only [List.map_toArray, List.map_cons, List.map_nil]); first | done | rfl | (simp only [List.length_drop, List.length_take]; rfl)) ?_
                 with_reducible refine (frame_Size.calls ((rdOf ByteArray.empty l3 x14_2).size : Int) t205 _ A20.out).mono ?_
                 rintro e w' ⟨rfl, ⟨nd, rfl⟩⟩
                 refine ⟨_, rfl, ?_⟩
                 refine hK.out _ _ ⟨((HB.out.cell (World.block_lt_of_cell? w _ hw197_0)).trans hw197_0), ((HB.out.cell (World.block_lt_of_cell? w _ hw197_1)).trans hw197_1), ((HB.out.cell (World.block_lt_of_cell? w _ hw197_2)).trans hw197_2), ((HB.out.cell (World.block_lt_of_cell? w _ hw197_3)).trans hw197_3), ((HB.out.cell (World.block_lt_of_cell? w _ hw198_0)).trans hw198_0), ((HB.out.cell (World.block_lt_of_cell? w _ hw198_1)).trans hw198_1), ((HB.out.cell (World.block_lt_of_cell? w _ hw198_2)).trans hw198_2), ((HB.out.cell (World.block_lt_of_cell? w _ hw198_3)).trans hw198_3), ((HB.out.cell (World.block_lt_of_cell? w _ hw199_0)).trans hw199_0), ((HB.out.cell (World.block_lt_of_cell? w _ hw200_0)).trans hw200_0), ((HB.out.cell (World.block_lt_of_cell? w _ hw200_1)).trans hw200_1), ((HB.out.cell (World.block_lt_of_cell? w _ hw200_2)).trans hw200_2), ((HB.out.cell (World.block_lt_of_cell? w _ hw200_3)).trans hw200_3), ((HB.out.cell (World.block_lt_of_cell? w _ hw201_0)).trans hw201_0), ((HB.out.cell (World.block_lt_of_cell? w _ hw202_0)).trans hw202_0), ((HB.out.cell (World.block_lt_of_cell? w _ hw203_0)).trans hw203_0), ((HB.out.cell (World.block_lt_of_cell? w _ hw204_0)).trans hw204_0)⟩ (fun hHeld => ?_)
                 clear hK K
                 refine norm_ (a' := ?_) ?_ ?_
                 rotate_left
                 ·show Act.put _ (some 82) _ = _
                  simp only [Act.put, s1_, s2_, s3_, i64_w, i32_w]
                  rfl
                 refine pu_ 53 (some 83) ?_ (bs_ 54 2) rfl rfl (any_of HT_.out (by kernel_rfl)) (fun _ _ _ h => h) (y_ (by rfl) ?_) ?_ ?_ ?_
                 rotate_left
                 ·intro w'
                  go_simp
                  with_reducible rfl
                 rotate_left
                 ·simp only [Act.put, s1_, s2_, s3_, i64_w, i32_w]
                  rfl
                 refine pu_ 54 (some 84) ?_ (bs_ 55 1) rfl rfl (any_of HT_.out (by kernel_rfl)) (fun _ _ _ h => h) (y_ (by rfl) ?_) ?_ ?_ ?_
                 rotate_left
                 ·intro w'
                  go_simp
                  with_reducible rfl
                 rotate_left
                 ·simp only [Act.put, s1_, s2_, s3_, i64_w, i32_w]
                  rfl
                 refine pu_ 55 (some 85) ?_ (bs_ 56 0) rfl rfl (any_of HT_.out (by kernel_rfl)) (fun _ _ _ h => h) (y_ (by rfl) ?_) ?_ ?_ ?_
                 rotate_left
                 ·intro w'
                  go_simp
                  with_reducible rfl
                 rotate_left
                 ·simp only [Act.put, s1_, s2_, s3_, i64_w, i32_w]
                  rfl
                 refine done_ (done_of HT_.out (by kernel_rfl)) ?_
                 try go_wp2
                 go_ret
                 exact ⟨by first | rfl | (simp [errW_none, errW_some] <;> rfl) | (simp [*, errW_none, errW_some] <;> rfl), by repeat (first | (with_reducible first | exact HB.out | apply below_alloc | apply pw_below_drewN | apply below_drew1) | exact HB.out)⟩
               ·rw [if_neg c19] at H
                have c19b0 : ((rd l1 x14_2) == (rd l4 x14_2)) = false := beq_eq_false_iff_ne.mpr c19
                have c19b1 : ((rd l1 x14_2) != (rd l4 x14_2)) = true := bne_iff_ne.mpr c19
                obtain rfl := Option.some.inj H
                try go_wp2
                have n0_ := Aside0.mk (below_drew1 HB.out)
                clear HB
                have HB := n0_
                clear n0_
                have p197 : 0 ≤ (x14_2 : Int) := of_decide_eq_true (by first | (with_reducible assumption) | assumption)
                have q197 : x14_2 < (l0.length : Int) := of_decide_eq_true (by first | (with_reducible assumption) | assumption)
                obtain ⟨ad197, e197, hx197_0, hx197_1, hx197_2, hx197_3⟩ := at_T49 HR0.out x14_2 p197 q197
                have hw197_3 := hx197_3
                have hw197_2 := hx197_2
                have hw197_1 := hx197_1
                have hw197_0 := hx197_0
                cases e197
                replace hx197_0 := (HB.out.cell (World.block_lt_of_cell? w _ hx197_0)).trans hx197_0
                replace hx197_1 := (HB.out.cell (World.block_lt_of_cell? w _ hx197_1)).trans hx197_1
                replace hx197_2 := (HB.out.cell (World.block_lt_of_cell? w _ hx197_2)).trans hx197_2
                replace hx197_3 := (HB.out.cell (World.block_lt_of_cell? w _ hx197_3)).trans hx197_3
                replace p197 := eq_true p197
                replace q197 := eq_true q197
                have p198 : 0 ≤ (x14_2 : Int) := of_decide_eq_true (by first | (with_reducible assumption) | assumption)
                have q198 : x14_2 < (l0.length : Int) := of_decide_eq_true (by first | (with_reducible assumption) | assumption)
                obtain ⟨ad198, e198, hx198_0, hx198_1, hx198_2, hx198_3⟩ := at_T49 HR0.out x14_2 p198 q198
                have hw198_3 := hx198_3
                have hw198_2 := hx198_2
                have hw198_1 := hx198_1
                have hw198_0 := hx198_0
                obtain rfl : ad197 = ad198 := (by injection e198)
                replace hx198_0 := (HB.out.cell (World.block_lt_of_cell? w _ hx198_0)).trans hx198_0
                replace hx198_1 := (HB.out.cell (World.block_lt_of_cell? w _ hx198_1)).trans hx198_1
                replace hx198_2 := (HB.out.cell (World.block_lt_of_cell? w _ hx198_2)).trans hx198_2
                replace hx198_3 := (HB.out.cell (World.block_lt_of_cell? w _ hx198_3)).trans hx198_3
                replace p198 := eq_true p198
                replace q198 := eq_true q198
                have p199 : 0 ≤ (x14_2 : Int) := of_decide_eq_true (by first | (with_reducible assumption) | assumption)
                have q199 : x14_2 < (l3.length : Int) := of_decide_eq_true (by first | (with_reducible assumption) | assumption)
                obtain ⟨ad199, e199, hx199_0⟩ := Kd.at_string HR3.out x14_2 p199 q199
                have hw199_0 := hx199_0
                cases e199
                replace hx199_0 := (HB.out.cell (World.block_lt_of_cell? w _ hx199_0)).trans hx199_0
                replace p199 := eq_true p199
                replace q199 := eq_true q199
                have p200 : 0 ≤ (x14_2 : Int) := of_decide_eq_true (by first | (with_reducible assumption) | assumption)
                have q200 : x14_2 < (l0.length : Int) := of_decide_eq_true (by first | (with_reducible assumption) | assumption)
                obtain ⟨ad200, e200, hx200_0, hx200_1, hx200_2, hx200_3⟩ := at_T49 HR0.out x14_2 p200 q200
                have hw200_3 := hx200_3
                have hw200_2 := hx200_2
                have hw200_1 := hx200_1
                have hw200_0 := hx200_0
                obtain rfl : ad197 = ad200 := (by injection e200)
                replace hx200_0 := (HB.out.cell (World.block_lt_of_cell? w _ hx200_0)).trans hx200_0
                replace hx200_1 := (HB.out.cell (World.block_lt_of_cell? w _ hx200_1)).trans hx200_1
                replace hx200_2 := (HB.out.cell (World.block_lt_of_cell? w _ hx200_2)).trans hx200_2
                replace hx200_3 := (HB.out.cell (World.block_lt_of_cell? w _ hx200_3)).trans hx200_3
                replace p200 := eq_true p200
                replace q200 := eq_true q200
                have p201 : 0 ≤ (x14_2 : Int) := of_decide_eq_true (by first | (with_reducible assumption) | assumption)
                have q201 : x14_2 < (l1.length : Int) := of_decide_eq_true (by first | (with_reducible assumption) | assumption)
                obtain ⟨ad201, e201, hx201_0⟩ := Kd.at_int HR1.out x14_2 p201 q201
                have hw201_0 := hx201_0
                cases e201
                replace hx201_0 := (HB.out.cell (World.block_lt_of_cell? w _ hx201_0)).trans hx201_0
                replace p201 := eq_true p201
                replace q201 := eq_true q201
                have p202 : 0 ≤ (x14_2 : Int) := of_decide_eq_true (by first | (with_reducible assumption) | assumption)
                have q202 : x14_2 < (l4.length : Int) := of_decide_eq_true (by first | (with_reducible assumption) | assumption)
                obtain ⟨ad202, e202, hx202_0⟩ := Kd.at_int HR4.out x14_2 p202 q202
                have hw202_0 := hx202_0
                cases e202
                replace hx202_0 := (HB.out.cell (World.block_lt_of_cell? w _ hx202_0)).trans hx202_0
                replace p202 := eq_true p202
                replace q202 := eq_true q202
                refine start_ (n := 56) (S := fun w' => w'.cell? (ad197.add ((x14_2).toNat * 4)) = some (.int .i64 ((rd_T49 l0 x14_2).f0)) ∧ w'.cell? ⟨(ad197.add ((x14_2).toNat * 4)).block, (ad197.add ((x14_2).toNat * 4)).off + 1, none⟩ = some (.int .i64 ((rd_T49 l0 x14_2).f1)) ∧ w'.cell? ⟨(ad197.add ((x14_2).toNat * 4)).block, (ad197.add ((x14_2).toNat * 4)).off + 2, none⟩ = some (.int .i64 ((rd_T49 l0 x14_2).f2)) ∧ w'.cell? ⟨(ad197.add ((x14_2).toNat * 4)).block, (ad197.add ((x14_2).toNat * 4)).off + 3, none⟩ = some (.string ((rd_T49 l0 x14_2).f3)) ∧ w'.cell? (ad197.add ((x14_2).toNat * 4)) = some (.int .i64 ((rd_T49 l0 x14_2).f0)) ∧ w'.cell? ⟨(ad197.add ((x14_2).toNat * 4)).block, (ad197.add ((x14_2).toNat * 4)).off + 1, none⟩ = some (.int .i64 ((rd_T49 l0 x14_2).f1)) ∧ w'.cell? ⟨(ad197.add ((x14_2).toNat * 4)).block, (ad197.add ((x14_2).toNat * 4)).off + 2, none⟩ = some (.int .i64 ((rd_T49 l0 x14_2).f2)) ∧ w'.cell? ⟨(ad197.add ((x14_2).toNat * 4)).block, (ad197.add ((x14_2).toNat * 4)).off + 3, none⟩ = some (.string ((rd_T49 l0 x14_2).f3)) ∧ w'.cell? (ad199.add (x14_2).toNat) = some (.string (rdOf ByteArray.empty l3 x14_2)) ∧ w'.cell? (ad197.add ((x14_2).toNat * 4)) = some (.int .i64 ((rd_T49 l0 x14_2).f0)) ∧ w'.cell? ⟨(ad197.add ((x14_2).toNat * 4)).block, (ad197.add ((x14_2).toNat * 4)).off + 1, none⟩ = some (.int .i64 ((rd_T49 l0 x14_2).f1)) ∧ w'.cell? ⟨(ad197.add ((x14_2).toNat * 4)).block, (ad197.add ((x14_2).toNat * 4)).off + 2, none⟩ = some (.int .i64 ((rd_T49 l0 x14_2).f2)) ∧ w'.cell? ⟨(ad197.add ((x14_2).toNat * 4)).block, (ad197.add ((x14_2).toNat * 4)).off + 3, none⟩ = some (.string ((rd_T49 l0 x14_2).f3)) ∧ w'.cell? (ad201.add (x14_2).toNat) = some (.int .i64 (rd l1 x14_2)) ∧ w'.cell? (ad202.add (x14_2).toNat) = some (.int .i64 (rd l4 x14_2))) (ds := []) (bs_ 0 56) (by kernel_rfl) rfl rfl ⟨((HB.out.cell (World.block_lt_of_cell? w _ hw197_0)).trans hw197_0), ((HB.out.cell (World.block_lt_of_cell? w _ hw197_1)).trans hw197_1), ((HB.out.cell (World.block_lt_of_cell? w _ hw197_2)).trans hw197_2), ((HB.out.cell (World.block_lt_of_cell? w _ hw197_3)).trans hw197_3), ((HB.out.cell (World.block_lt_of_cell? w _ hw198_0)).trans hw198_0), ((HB.out.cell (World.block_lt_of_cell? w _ hw198_1)).trans hw198_1), ((HB.out.cell (World.block_lt_of_cell? w _ hw198_2)).trans hw198_2), ((HB.out.cell (World.block_lt_of_cell? w _ hw198_3)).trans hw198_3), ((HB.out.cell (World.block_lt_of_cell? w _ hw199_0)).trans hw199_0), ((HB.out.cell (World.block_lt_of_cell? w _ hw200_0)).trans hw200_0), ((HB.out.cell (World.block_lt_of_cell? w _ hw200_1)).trans hw200_1), ((HB.out.cell (World.block_lt_of_cell? w _ hw200_2)).trans hw200_2), ((HB.out.cell (World.block_lt_of_cell? w _ hw200_3)).trans hw200_3), ((HB.out.cell (World.block_lt_of_cell? w _ hw201_0)).trans hw201_0), ((HB.out.cell (World.block_lt_of_cell? w _ hw202_0)).trans hw202_0)⟩ (fun hHeld => ?_); refine with_tabW postbaglaw10_whole.tab7 postbaglaw10_whole.bits7 (fun HT_ HW_ => ?_)
                generalize wr.drew = w24 at HB hx197_0 hx197_1 hx197_2 hx197_3 hx198_0 hx198_1 hx198_2 hx198_3 hx199_0 hx200_0 hx200_1 hx200_2 hx200_3 hx201_0 hx202_0 hHeld ⊢
                refine pu_ 0 (some 30) ?_ (bs_ 1 55) rfl rfl (any_of HT_.out (by kernel_rfl)) (fun _ _ _ h => h) (y_ (by rfl) ?_) ?_ ?_ ?_
                rotate_left
                ·intro w'
                 go_simp
                 with_reducible rfl
                rotate_left
                ·simp only [Act.put, s1_, s2_, s3_, i64_w, i32_w]
                 rfl
                refine pu_ 1 (some 31) ?_ (bs_ 2 54) rfl rfl (any_of HT_.out (by kernel_rfl)) (fun _ _ _ h => h) (y_ (by rfl) ?_) ?_ ?_ ?_
                rotate_left
                ·intro w'
                 go_simp
                 with_reducible rfl
                rotate_left
                ·simp only [Act.put, s1_, s2_, s3_, i64_w, i32_w]
                 rfl
                refine pu_ 2 (some 32) ?_ (bs_ 3 53) rfl rfl (any_of HT_.out (by kernel_rfl)) (fun _ _ _ h => h) (y_ (by rfl) ?_) ?_ ?_ ?_
                rotate_left
                ·intro w'
                 go_simp
                 with_reducible rfl
                rotate_left
                ·simp only [Act.put, s1_, s2_, s3_, i64_w, i32_w]
                 rfl
                refine pu_ 3 (some 33) ?_ (bs_ 4 52) rfl rfl (any_of HT_.out (by kernel_rfl)) (fun _ _ _ h => h) (y_ (by rfl) ?_) ?_ ?_ ?_
                rotate_left
                ·intro w'
                 go_simp
                 with_reducible rfl
                rotate_left
                ·simp only [Act.put, s1_, s2_, s3_, i64_w, i32_w]
                 rfl
                refine pu_ 5 (some 35) ?_ #[true, true, true, true, false, true, false, false, false, false, false, false, false, false, false, false, false, false, false, false, false, false, false, false, false, false, false, false, false, false, false, false, false, false, false, false, false, false, false, false, false, false, false, false, false, false, false, false, false, false, false, false, false, false, false, false] rfl rfl (any_of HT_.out (by kernel_rfl)) (fun _ _ _ h => h) (y_ (by rfl) ?_) ?_ ?_ ?_
                rotate_left
                ·intro w'
                 go_simp
                 with_reducible rfl
                rotate_left
                ·simp only [Act.put, s1_, s2_, s3_, i64_w, i32_w]
                 rfl
                refine pu_ 6 (some 36) ?_ #[true, true, true, true, false, true, true, false, false, false, false, false, false, false, false, false, false, false, false, false, false, false, false, false, false, false, false, false, false, false, false, false, false, false, false, false, false, false, false, false, false, false, false, false, false, false, false, false, false, false, false, false, false, false, false, false] rfl rfl (any_of HT_.out (by kernel_rfl)) (fun _ _ _ h => h) (y_ (by rfl) ?_) ?_ ?_ ?_
                rotate_left
                ·intro w'
                 go_simp
                 with_reducible rfl
                rotate_left
                ·simp only [Act.put, s1_, s2_, s3_, i64_w, i32_w]
                 rfl
                refine pu_ 7 (some 37) ?_ #[true, true, true, true, false, true, true, true, false, false, false, false, false, false, false, false, false, false, false, false, false, false, false, false, false, false, false, false, false, false, false, false, false, false, false, false, false, false, false, false, false, false, false, false, false, false, false, false, false, false, false, false, false, false, false, false] rfl rfl (any_of HT_.out (by kernel_rfl)) (fun _ _ _ h => h) (y_ (by rfl) ?_) ?_ ?_ ?_
                rotate_left
                ·intro w'
                 go_simp
                 with_reducible rfl
                rotate_left
                ·simp only [Act.put, s1_, s2_, s3_, i64_w, i32_w]
                 rfl
                refine take_ (i := 4) (N := some 34) (v := ?_) (a' := ?_) (bs_ 8 48) rfl rfl (take_ofW HT_.out HW_.out (by kernel_rfl)) (fun _ _ _ h => h) (Or.inl ⟨by rfl, ?_⟩) hHeld ?_ ?_
                rotate_left
                ·rintro w' ⟨s0, s1, s2, s3, s4, s5, s6, s7, s8, s9, s10, s11, s12, s13, s14⟩
                 go_simp
                 with_reducible rfl
                rotate_left
                ·simp only [Act.put, s1_, s2_, s3_, i64_w, i32_w]
                 rfl
                refine pu_ 8 (some 38) ?_ (bs_ 9 47) rfl rfl (any_of HT_.out (by kernel_rfl)) (fun _ _ _ h => h) (y_ (by rfl) ?_) ?_ ?_ ?_
                rotate_left
                ·intro w'
                 go_simp
                 with_reducible rfl
                rotate_left
                ·simp only [Act.put, s1_, s2_, s3_, i64_w, i32_w]
                 rfl
                refine pu_ 9 (some 39) ?_ (bs_ 10 46) rfl rfl (any_of HT_.out (by kernel_rfl)) (fun _ _ _ h => h) (y_ (by rfl) ?_) ?_ ?_ ?_
                rotate_left
                ·intro w'
                 go_simp
                 with_reducible rfl
                rotate_left
                ·simp only [Act.put, s1_, s2_, s3_, i64_w, i32_w]
                 rfl
                refine pu_ 10 (some 40) ?_ (bs_ 11 45) rfl rfl (any_of HT_.out (by kernel_rfl)) (fun _ _ _ h => h) (y_ (by rfl) ?_) ?_ ?_ ?_
                rotate_left
                ·intro w'
                 go_simp
                 with_reducible rfl
                rotate_left
                ·simp only [Act.put, s1_, s2_, s3_, i64_w, i32_w]
                 rfl
                refine pu_ 11 (some 41) ?_ (bs_ 12 44) rfl rfl (any_of HT_.out (by kernel_rfl)) (fun _ _ _ h => h) (y_ (by rfl) ?_) ?_ ?_ ?_
                rotate_left
                ·intro w'
                 go_simp
                 with_reducible rfl
                rotate_left
                ·simp only [Act.put, s1_, s2_, s3_, i64_w, i32_w]
                 rfl
                refine pu_ 12 (some 42) ?_ (bs_ 13 43) rfl rfl (any_of HT_.out (by kernel_rfl)) (fun _ _ _ h => h) (y_ (by rfl) ?_) ?_ ?_ ?_
                rotate_left
                ·intro w'
                 go_simp
                 with_reducible rfl
                rotate_left
                ·simp only [Act.put, s1_, s2_, s3_, i64_w, i32_w]
                 rfl
                refine pu_ 13 (some 43) ?_ (bs_ 14 42) rfl rfl (any_of HT_.out (by kernel_rfl)) (fun _ _ _ h => h) (y_ (by rfl) ?_) ?_ ?_ ?_
                rotate_left
                ·intro w'
                 go_simp
                 with_reducible rfl
                rotate_left
                ·simp only [Act.put, s1_, s2_, s3_, i64_w, i32_w]
                 rfl
                refine pu_ 15 (some 45) ?_ #[true, true, true, true, true, true, true, true, true, true, true, true, true, true, false, true, false, false, false, false, false, false, false, false, false, false, false, false, false, false, false, false, false, false, false, false, false, false, false, false, false, false, false, false, false, false, false, false, false, false, false, false, false, false, false, false] rfl rfl (any_of HT_.out (by kernel_rfl)) (fun _ _ _ h => h) (y_ (by rfl) ?_) ?_ ?_ ?_
                rotate_left
                ·intro w'
                 go_simp
                 with_reducible rfl
                rotate_left
                ·simp only [Act.put, s1_, s2_, s3_, i64_w, i32_w]
                 rfl
                refine pu_ 16 (some 46) ?_ #[true, true, true, true, true, true, true, true, true, true, true, true, true, true, false, true, true, false, false, false, false, false, false, false, false, false, false, false, false, false, false, false, false, false, false, false, false, false, false, false, false, false, false, false, false, false, false, false, false, false, false, false, false, false, false, false] rfl rfl (any_of HT_.out (by kernel_rfl)) (fun _ _ _ h => h) (y_ (by rfl) ?_) ?_ ?_ ?_
                rotate_left
                ·intro w'
                 go_simp
                 with_reducible rfl
                rotate_left
                ·simp only [Act.put, s1_, s2_, s3_, i64_w, i32_w]
                 rfl
                refine pu_ 17 (some 47) ?_ #[true, true, true, true, true, true, true, true, true, true, true, true, true, true, false, true, true, true, false, false, false, false, false, false, false, false, false, false, false, false, false, false, false, false, false, false, false, false, false, false, false, false, false, false, false, false, false, false, false, false, false, false, false, false, false, false] rfl rfl (any_of HT_.out (by kernel_rfl)) (fun _ _ _ h => h) (y_ (by rfl) ?_) ?_ ?_ ?_
                rotate_left
                ·intro w'
                 go_simp
                 with_reducible rfl
                rotate_left
                ·simp only [Act.put, s1_, s2_, s3_, i64_w, i32_w]
                 rfl
                refine take_ (i := 14) (N := some 44) (v := ?_) (a' := ?_) (bs_ 18 38) rfl rfl (take_ofW HT_.out HW_.out (by kernel_rfl)) (fun _ _ _ h => h) (Or.inl ⟨by rfl, ?_⟩) hHeld ?_ ?_
                rotate_left
                ·rintro w' ⟨s0, s1, s2, s3, s4, s5, s6, s7, s8, s9, s10, s11, s12, s13, s14⟩
                 go_simp
                 with_reducible rfl
                rotate_left
                ·simp only [Act.put, s1_, s2_, s3_, i64_w, i32_w]
                 rfl
                refine take_ (i := 18) (N := some 48) (v := ?_) (a' := ?_) (bs_ 19 37) rfl rfl (take_ofW HT_.out HW_.out (by kernel_rfl)) (fun _ _ _ h => h) (Or.inl ⟨by rfl, ?_⟩) hHeld ?_ ?_
                rotate_left
                ·rintro w' ⟨s0, s1, s2, s3, s4, s5, s6, s7, s8, s9, s10, s11, s12, s13, s14⟩
                 go_simp
                 with_reducible rfl
                rotate_left
                ·simp only [Act.put, s1_, s2_, s3_, i64_w, i32_w]
                 rfl
                refine pu_ 19 (some 49) ?_ (bs_ 20 36) rfl rfl (any_of HT_.out (by kernel_rfl)) (fun _ _ _ h => h) (y_ (by rfl) ?_) ?_ ?_ ?_
                rotate_left
                ·intro w'
                 go_simp
                 with_reducible rfl
                rotate_left
                ·simp only [Act.put, s1_, s2_, s3_, i64_w, i32_w]
                 rfl
                refine pu_ 20 (some 50) ?_ (bs_ 21 35) rfl rfl (any_of HT_.out (by kernel_rfl)) (fun _ _ _ h => h) (y_ (by rfl) ?_) ?_ ?_ ?_
                rotate_left
                ·intro w'
                 go_simp
                 with_reducible rfl
                rotate_left
                ·simp only [Act.put, s1_, s2_, s3_, i64_w, i32_w]
                 rfl
                refine pu_ 21 (some 51) ?_ (bs_ 22 34) rfl rfl (any_of HT_.out (by kernel_rfl)) (fun _ _ _ h => h) (y_ (by rfl) ?_) ?_ ?_ ?_
                rotate_left
                ·intro w'
                 go_simp
                 with_reducible rfl
                rotate_left
                ·simp only [Act.put, s1_, s2_, s3_, i64_w, i32_w]
                 rfl
                refine pu_ 22 (some 52) ?_ (bs_ 23 33) rfl rfl (any_of HT_.out (by kernel_rfl)) (fun _ _ _ h => h) (y_ (by rfl) ?_) ?_ ?_ ?_
                rotate_left
                ·intro w'
                 go_simp
                 with_reducible rfl
                rotate_left
                ·simp only [Act.put, s1_, s2_, s3_, i64_w, i32_w]
                 rfl
                refine pu_ 23 (some 53) ?_ (bs_ 24 32) rfl rfl (any_of HT_.out (by kernel_rfl)) (fun _ _ _ h => h) (y_ (by rfl) ?_) ?_ ?_ ?_
                rotate_left
                ·intro w'
                 go_simp
                 with_reducible rfl
                rotate_left
                ·simp only [Act.put, s1_, s2_, s3_, i64_w, i32_w]
                 rfl
                refine pu_ 24 (some 54) ?_ (bs_ 25 31) rfl rfl (any_of HT_.out (by kernel_rfl)) (fun _ _ _ h => h) (y_ (by rfl) ?_) ?_ ?_ ?_
                rotate_left
                ·intro w'
                 go_simp
                 with_reducible rfl
                rotate_left
                ·simp only [Act.put, s1_, s2_, s3_, i64_w, i32_w]
                 rfl
                refine pu_ 25 (some 55) ?_ (bs_ 26 30) rfl rfl (any_of HT_.out (by kernel_rfl)) (fun _ _ _ h => h) (y_ (by rfl) ?_) ?_ ?_ ?_
                rotate_left
                ·intro w'
                 go_simp
                 with_reducible rfl
                rotate_left
                ·simp only [Act.put, s1_, s2_, s3_, i64_w, i32_w]
                 rfl
                refine pu_ 27 (some 57) ?_ #[true, true, true, true, true, true, true, true, true, true, true, true, true, true, true, true, true, true, true, true, true, true, true, true, true, true, false, true, false, false, false, false, false, false, false, false, false, false, false, false, false, false, false, false, false, false, false, false, false, false, false, false, false, false, false, false] rfl rfl (any_of HT_.out (by kernel_rfl)) (fun _ _ _ h => h) (y_ (by rfl) ?_) ?_ ?_ ?_
                rotate_left
                ·intro w'
                 go_simp
                 with_reducible rfl
                rotate_left
                ·simp only [Act.put, s1_, s2_, s3_, i64_w, i32_w]
                 rfl
                refine take_ (i := 26) (N := some 56) (v := ?_) (a' := ?_) (bs_ 28 28) rfl rfl (take_ofW HT_.out HW_.out (by kernel_rfl)) (fun _ _ _ h => h) (Or.inl ⟨by rfl, ?_⟩) hHeld ?_ ?_
                rotate_left
                ·rintro w' ⟨s0, s1, s2, s3, s4, s5, s6, s7, s8, s9, s10, s11, s12, s13, s14⟩
                 go_simp
                 with_reducible rfl
                rotate_left
                ·simp only [Act.put, s1_, s2_, s3_, i64_w, i32_w]
                 rfl
                refine pu_ 28 (some 58) ?_ (bs_ 29 27) rfl rfl (any_of HT_.out (by kernel_rfl)) (fun _ _ _ h => h) (y_ (by rfl) ?_) ?_ ?_ ?_
                rotate_left
                ·intro w'
                 go_simp
                 with_reducible rfl
                rotate_left
                ·simp only [Act.put, s1_, s2_, s3_, i64_w, i32_w]
                 rfl
                refine pu_ 29 (some 59) ?_ (bs_ 30 26) rfl rfl (any_of HT_.out (by kernel_rfl)) (fun _ _ _ h => h) (y_ (by rfl) ?_) ?_ ?_ ?_
                rotate_left
                ·intro w'
                 go_simp
                 with_reducible rfl
                rotate_left
                ·simp only [Act.put, s1_, s2_, s3_, i64_w, i32_w]
                 rfl
                refine pu_ 30 (some 60) ?_ (bs_ 31 25) rfl rfl (any_of HT_.out (by kernel_rfl)) (fun _ _ _ h => h) (y_ (by rfl) ?_) ?_ ?_ ?_
                rotate_left
                ·intro w'
                 go_simp
                 with_reducible rfl
                rotate_left
                ·simp only [Act.put, s1_, s2_, s3_, i64_w, i32_w]
                 rfl
                refine pu_ 31 (some 61) ?_ (bs_ 32 24) rfl rfl (any_of HT_.out (by kernel_rfl)) (fun _ _ _ h => h) (y_ (by rfl) ?_) ?_ ?_ ?_
                rotate_left
                ·intro w'
                 go_simp
                 with_reducible rfl
                rotate_left
                ·simp only [Act.put, s1_, s2_, s3_, i64_w, i32_w]
                 rfl
                refine pu_ 32 (some 62) ?_ (bs_ 33 23) rfl rfl (any_of HT_.out (by kernel_rfl)) (fun _ _ _ h => h) (y_ (by rfl) ?_) ?_ ?_ ?_
                rotate_left
                ·intro w'
                 go_simp
                 with_reducible rfl
                rotate_left
                ·simp only [Act.put, s1_, s2_, s3_, i64_w, i32_w]
                 rfl
                refine pu_ 33 (some 63) ?_ (bs_ 34 22) rfl rfl (any_of HT_.out (by kernel_rfl)) (fun _ _ _ h => h) (y_ (by rfl) ?_) ?_ ?_ ?_
                rotate_left
                ·intro w'
                 go_simp
                 with_reducible rfl
                rotate_left
                ·simp only [Act.put, s1_, s2_, s3_, i64_w, i32_w]
                 rfl
                refine pu_ 35 (some 65) ?_ #[true, true, true, true, true, true, true, true, true, true, true, true, true, true, true, true, true, true, true, true, true, true, true, true, true, true, true, true, true, true, true, true, true, true, false, true, false, false, false, false, false, false, false, false, false, false, false, false, false, false, false, false, false, false, false, false] rfl rfl (any_of HT_.out (by kernel_rfl)) (fun _ _ _ h => h) (y_ (by rfl) ?_) ?_ ?_ ?_
                rotate_left
                ·intro w'
                 go_simp
                 with_reducible rfl
                rotate_left
                ·simp only [Act.put, s1_, s2_, s3_, i64_w, i32_w]
                 rfl
                refine pu_ 36 (some 66) ?_ #[true, true, true, true, true, true, true, true, true, true, true, true, true, true, true, true, true, true, true, true, true, true, true, true, true, true, true, true, true, true, true, true, true, true, false, true, true, false, false, false, false, false, false, false, false, false, false, false, false, false, false, false, false, false, false, false] rfl rfl (any_of HT_.out (by kernel_rfl)) (fun _ _ _ h => h) (y_ (by rfl) ?_) ?_ ?_ ?_
                rotate_left
                ·intro w'
                 go_simp
                 with_reducible rfl
                rotate_left
                ·simp only [Act.put, s1_, s2_, s3_, i64_w, i32_w]
                 rfl
                refine pu_ 37 (some 67) ?_ #[true, true, true, true, true, true, true, true, true, true, true, true, true, true, true, true, true, true, true, true, true, true, true, true, true, true, true, true, true, true, true, true, true, true, false, true, true, true, false, false, false, false, false, false, false, false, false, false, false, false, false, false, false, false, false, false] rfl rfl (any_of HT_.out (by kernel_rfl)) (fun _ _ _ h => h) (y_ (by rfl) ?_) ?_ ?_ ?_
                rotate_left
                ·intro w'
                 go_simp
                 with_reducible rfl
                rotate_left
                ·simp only [Act.put, s1_, s2_, s3_, i64_w, i32_w]
                 rfl
                refine take_ (i := 34) (N := some 64) (v := ?_) (a' := ?_) (bs_ 38 18) rfl rfl (take_ofW HT_.out HW_.out (by kernel_rfl)) (fun _ _ _ h => h) (Or.inl ⟨by rfl, ?_⟩) hHeld ?_ ?_
                rotate_left
                ·rintro w' ⟨s0, s1, s2, s3, s4, s5, s6, s7, s8, s9, s10, s11, s12, s13, s14⟩
                 go_simp
                 with_reducible rfl
                rotate_left
                ·simp only [Act.put, s1_, s2_, s3_, i64_w, i32_w]
                 rfl
                refine take_ (i := 38) (N := some 68) (v := ?_) (a' := ?_) (bs_ 39 17) rfl rfl (take_ofW HT_.out HW_.out (by kernel_rfl)) (fun _ _ _ h => h) (Or.inl ⟨by rfl, ?_⟩) hHeld ?_ ?_
                rotate_left
                ·rintro w' ⟨s0, s1, s2, s3, s4, s5, s6, s7, s8, s9, s10, s11, s12, s13, s14⟩
                 go_simp
                 with_reducible rfl
                rotate_left
                ·simp only [Act.put, s1_, s2_, s3_, i64_w, i32_w]
                 rfl
                refine pu_ 39 (some 69) ?_ (bs_ 40 16) rfl rfl (any_of HT_.out (by kernel_rfl)) (fun _ _ _ h => h) (y_ (by rfl) ?_) ?_ ?_ ?_
                rotate_left
                ·intro w'
                 go_simp
                 with_reducible rfl
                rotate_left
                ·simp only [Act.put, s1_, s2_, s3_, i64_w, i32_w]
                 rfl
                refine pu_ 40 (some 70) ?_ (bs_ 41 15) rfl rfl (any_of HT_.out (by kernel_rfl)) (fun _ _ _ h => h) (y_ (by rfl) ?_) ?_ ?_ ?_
                rotate_left
                ·intro w'
                 go_simp
                 with_reducible rfl
                rotate_left
                ·simp only [Act.put, s1_, s2_, s3_, i64_w, i32_w]
                 rfl
                refine pu_ 41 (some 71) ?_ (bs_ 42 14) rfl rfl (any_of HT_.out (by kernel_rfl)) (fun _ _ _ h => h) (y_ (by rfl) ?_) ?_ ?_ ?_
                rotate_left
                ·intro w'
                 go_simp
                 with_reducible rfl
                rotate_left
                ·simp only [Act.put, s1_, s2_, s3_, i64_w, i32_w]
                 rfl
                refine pu_ 42 (some 72) undef (bs_ 43 13) rfl rfl (any_of HT_.out (by kernel_rfl)) (fun _ _ _ h => h) (n_ (by rfl)) ?_ ?_ ?_
                rotate_left
                ·simp only [Act.put, s1_, s2_, s3_, i64_w, i32_w]
                 rfl
                refine pu_ 43 (some 73) undef (bs_ 44 12) rfl rfl (any_of HT_.out (by kernel_rfl)) (fun _ _ _ h => h) (n_ (by rfl)) ?_ ?_ ?_
                rotate_left
                ·simp only [Act.put, s1_, s2_, s3_, i64_w, i32_w]
                 rfl
                refine pu_ 44 (some 74) undef (bs_ 45 11) rfl rfl (any_of HT_.out (by kernel_rfl)) (fun _ _ _ h => h) (n_ (by rfl)) ?_ ?_ ?_
                rotate_left
                ·simp only [Act.put, s1_, s2_, s3_, i64_w, i32_w]
                 rfl
                refine pu_ 45 (some 75) undef (bs_ 46 10) rfl rfl (any_of HT_.out (by kernel_rfl)) (fun _ _ _ h => h) (n_ (by rfl)) ?_ ?_ ?_
                rotate_left
                ·simp only [Act.put, s1_, s2_, s3_, i64_w, i32_w]
                 rfl
                refine pu_ 46 (some 76) undef (bs_ 47 9) rfl rfl (any_of HT_.out (by kernel_rfl)) (fun _ _ _ h => h) (n_ (by rfl)) ?_ ?_ ?_
                rotate_left
                ·simp only [Act.put, s1_, s2_, s3_, i64_w, i32_w]
                 rfl
                refine pu_ 47 (some 77) undef (bs_ 48 8) rfl rfl (any_of HT_.out (by kernel_rfl)) (fun _ _ _ h => h) (n_ (by rfl)) ?_ ?_ ?_
                rotate_left
                ·simp only [Act.put, s1_, s2_, s3_, i64_w, i32_w]
                 rfl
                refine pu_ 48 (some 78) undef (bs_ 49 7) rfl rfl (any_of HT_.out (by kernel_rfl)) (fun _ _ _ h => h) (n_ (by rfl)) ?_ ?_ ?_
                rotate_left
                ·simp only [Act.put, s1_, s2_, s3_, i64_w, i32_w]
                 rfl
                refine pu_ 49 (some 79) undef (bs_ 50 6) rfl rfl (any_of HT_.out (by kernel_rfl)) (fun _ _ _ h => h) (n_ (by rfl)) ?_ ?_ ?_
                rotate_left
                ·simp only [Act.put, s1_, s2_, s3_, i64_w, i32_w]
                 rfl
                refine pu_ 50 (some 80) undef (bs_ 51 5) rfl rfl (any_of HT_.out (by kernel_rfl)) (fun _ _ _ h => h) (n_ (by rfl)) ?_ ?_ ?_
                rotate_left
                ·simp only [Act.put, s1_, s2_, s3_, i64_w, i32_w]
                 rfl
                refine pu_ 51 (some 81) undef (bs_ 52 4) rfl rfl (any_of HT_.out (by kernel_rfl)) (fun _ _ _ h => h) (n_ (by rfl)) ?_ ?_ ?_
                rotate_left
                ·simp only [Act.put, s1_, s2_, s3_, i64_w, i32_w]
                 rfl
                refine pu_ 52 (some 82) undef (bs_ 53 3) rfl rfl (any_of HT_.out (by kernel_rfl)) (fun _ _ _ h => h) (n_ (by rfl)) ?_ ?_ ?_
                rotate_left
                ·simp only [Act.put, s1_, s2_, s3_, i64_w, i32_w]
                 rfl
                refine pu_ 53 (some 83) undef (bs_ 54 2) rfl rfl (any_of HT_.out (by kernel_rfl)) (fun _ _ _ h => h) (n_ (by rfl)) ?_ ?_ ?_
                rotate_left
                ·simp only [Act.put, s1_, s2_, s3_, i64_w, i32_w]
                 rfl
                refine pu_ 54 (some 84) undef (bs_ 55 1) rfl rfl (any_of HT_.out (by kernel_rfl)) (fun _ _ _ h => h) (n_ (by rfl)) ?_ ?_ ?_
                rotate_left
                ·simp only [Act.put, s1_, s2_, s3_, i64_w, i32_w]
                 rfl
                refine pu_ 55 (some 85) ?_ (bs_ 56 0) rfl rfl (any_of HT_.out (by kernel_rfl)) (fun _ _ _ h => h) (y_ (by rfl) ?_) ?_ ?_ ?_
                rotate_left
                ·intro w'
                 go_simp
                 with_reducible rfl
                rotate_left
                ·simp only [Act.put, s1_, s2_, s3_, i64_w, i32_w]
                 rfl
                refine done_ (done_of HT_.out (by kernel_rfl)) ?_
                try go_wp2
                go_ret
                exact ⟨by first | rfl | (simp [errW_none, errW_some] <;> rfl) | (simp [*, errW_none, errW_some] <;> rfl), by repeat (first | (with_reducible first | exact HB.out | apply below_alloc | apply pw_below_drewN | apply below_drew1) | exact HB.out)⟩
              ·rw [if_neg c18] at H
               exact absurd H (by simp)
             ·rw [if_neg c17] at H
              exact absurd H (by simp)
            ·rw [if_neg c16] at H
             have c16b0 : (((rd_T49 l0 x14_2).f2) == x13_2) = false := beq_eq_false_iff_ne.mpr c16
             have c16b1 : (((rd_T49 l0 x14_2).f2) != x13_2) = true := bne_iff_ne.mpr c16
             obtain rfl := Option.some.inj H
             try go_wp2
             have n0_ := Aside0.mk (below_drew1 HB.out)
             clear HB
             have HB := n0_
             clear n0_
             have p197 : 0 ≤ (x14_2 : Int) := of_decide_eq_true (by first | (with_reducible assumption) | assumption)
             have q197 : x14_2 < (l0.length : Int) := of_decide_eq_true (by first | (with_reducible assumption) | assumption)
             obtain ⟨ad197, e197, hx197_0, hx197_1, hx197_2, hx197_3⟩ := at_T49 HR0.out x14_2 p197 q197
             have hw197_3 := hx197_3
             have hw197_2 := hx197_2
             have hw197_1 := hx197_1
             have hw197_0 := hx197_0
             cases e197
             replace hx197_0 := (HB.out.cell (World.block_lt_of_cell? w _ hx197_0)).trans hx197_0
             replace hx197_1 := (HB.out.cell (World.block_lt_of_cell? w _ hx197_1)).trans hx197_1
             replace hx197_2 := (HB.out.cell (World.block_lt_of_cell? w _ hx197_2)).trans hx197_2
             replace hx197_3 := (HB.out.cell (World.block_lt_of_cell? w _ hx197_3)).trans hx197_3
             replace p197 := eq_true p197
             replace q197 := eq_true q197
             have p198 : 0 ≤ (x14_2 : Int) := of_decide_eq_true (by first | (with_reducible assumption) | assumption)
             have q198 : x14_2 < (l0.length : Int) := of_decide_eq_true (by first | (with_reducible assumption) | assumption)
             obtain ⟨ad198, e198, hx198_0, hx198_1, hx198_2, hx198_3⟩ := at_T49 HR0.out x14_2 p198 q198
             have hw198_3 := hx198_3
             have hw198_2 := hx198_2
             have hw198_1 := hx198_1
             have hw198_0 := hx198_0
             obtain rfl : ad197 = ad198 := (by injection e198)
             replace hx198_0 := (HB.out.cell (World.block_lt_of_cell? w _ hx198_0)).trans hx198_0
             replace hx198_1 := (HB.out.cell (World.block_lt_of_cell? w _ hx198_1)).trans hx198_1
             replace hx198_2 := (HB.out.cell (World.block_lt_of_cell? w _ hx198_2)).trans hx198_2
             replace hx198_3 := (HB.out.cell (World.block_lt_of_cell? w _ hx198_3)).trans hx198_3
             replace p198 := eq_true p198
             replace q198 := eq_true q198
             have p199 : 0 ≤ (x14_2 : Int) := of_decide_eq_true (by first | (with_reducible assumption) | assumption)
             have q199 : x14_2 < (l3.length : Int) := of_decide_eq_true (by first | (with_reducible assumption) | assumption)
             obtain ⟨ad199, e199, hx199_0⟩ := Kd.at_string HR3.out x14_2 p199 q199
             have hw199_0 := hx199_0
             cases e199
             replace hx199_0 := (HB.out.cell (World.block_lt_of_cell? w _ hx199_0)).trans hx199_0
             replace p199 := eq_true p199
             replace q199 := eq_true q199
             have p200 : 0 ≤ (x14_2 : Int) := of_decide_eq_true (by first | (with_reducible assumption) | assumption)
             have q200 : x14_2 < (l0.length : Int) := of_decide_eq_true (by first | (with_reducible assumption) | assumption)
             obtain ⟨ad200, e200, hx200_0, hx200_1, hx200_2, hx200_3⟩ := at_T49 HR0.out x14_2 p200 q200
             have hw200_3 := hx200_3
             have hw200_2 := hx200_2
             have hw200_1 := hx200_1
             have hw200_0 := hx200_0
             obtain rfl : ad197 = ad200 := (by injection e200)
             replace hx200_0 := (HB.out.cell (World.block_lt_of_cell? w _ hx200_0)).trans hx200_0
             replace hx200_1 := (HB.out.cell (World.block_lt_of_cell? w _ hx200_1)).trans hx200_1
             replace hx200_2 := (HB.out.cell (World.block_lt_of_cell? w _ hx200_2)).trans hx200_2
             replace hx200_3 := (HB.out.cell (World.block_lt_of_cell? w _ hx200_3)).trans hx200_3
             replace p200 := eq_true p200
             replace q200 := eq_true q200
             refine start_ (n := 56) (S := fun w' => w'.cell? (ad197.add ((x14_2).toNat * 4)) = some (.int .i64 ((rd_T49 l0 x14_2).f0)) ∧ w'.cell? ⟨(ad197.add ((x14_2).toNat * 4)).block, (ad197.add ((x14_2).toNat * 4)).off + 1, none⟩ = some (.int .i64 ((rd_T49 l0 x14_2).f1)) ∧ w'.cell? ⟨(ad197.add ((x14_2).toNat * 4)).block, (ad197.add ((x14_2).toNat * 4)).off + 2, none⟩ = some (.int .i64 ((rd_T49 l0 x14_2).f2)) ∧ w'.cell? ⟨(ad197.add ((x14_2).toNat * 4)).block, (ad197.add ((x14_2).toNat * 4)).off + 3, none⟩ = some (.string ((rd_T49 l0 x14_2).f3)) ∧ w'.cell? (ad197.add ((x14_2).toNat * 4)) = some (.int .i64 ((rd_T49 l0 x14_2).f0)) ∧ w'.cell? ⟨(ad197.add ((x14_2).toNat * 4)).block, (ad197.add ((x14_2).toNat * 4)).off + 1, none⟩ = some (.int .i64 ((rd_T49 l0 x14_2).f1)) ∧ w'.cell? ⟨(ad197.add ((x14_2).toNat * 4)).block, (ad197.add ((x14_2).toNat * 4)).off + 2, none⟩ = some (.int .i64 ((rd_T49 l0 x14_2).f2)) ∧ w'.cell? ⟨(ad197.add ((x14_2).toNat * 4)).block, (ad197.add ((x14_2).toNat * 4)).off + 3, none⟩ = some (.string ((rd_T49 l0 x14_2).f3)) ∧ w'.cell? (ad199.add (x14_2).toNat) = some (.string (rdOf ByteArray.empty l3 x14_2)) ∧ w'.cell? (ad197.add ((x14_2).toNat * 4)) = some (.int .i64 ((rd_T49 l0 x14_2).f0)) ∧ w'.cell? ⟨(ad197.add ((x14_2).toNat * 4)).block, (ad197.add ((x14_2).toNat * 4)).off + 1, none⟩ = some (.int .i64 ((rd_T49 l0 x14_2).f1)) ∧ w'.cell? ⟨(ad197.add ((x14_2).toNat * 4)).block, (ad197.add ((x14_2).toNat * 4)).off + 2, none⟩ = some (.int .i64 ((rd_T49 l0 x14_2).f2)) ∧ w'.cell? ⟨(ad197.add ((x14_2).toNat * 4)).block, (ad197.add ((x14_2).toNat * 4)).off + 3, none⟩ = some (.string ((rd_T49 l0 x14_2).f3))) (ds := []) (bs_ 0 56) (by kernel_rfl) rfl rfl ⟨((HB.out.cell (World.block_lt_of_cell? w _ hw197_0)).trans hw197_0), ((HB.out.cell (World.block_lt_of_cell? w _ hw197_1)).trans hw197_1), ((HB.out.cell (World.block_lt_of_cell? w _ hw197_2)).trans hw197_2), ((HB.out.cell (World.block_lt_of_cell? w _ hw197_3)).trans hw197_3), ((HB.out.cell (World.block_lt_of_cell? w _ hw198_0)).trans hw198_0), ((HB.out.cell (World.block_lt_of_cell? w _ hw198_1)).trans hw198_1), ((HB.out.cell (World.block_lt_of_cell? w _ hw198_2)).trans hw198_2), ((HB.out.cell (World.block_lt_of_cell? w _ hw198_3)).trans hw198_3), ((HB.out.cell (World.block_lt_of_cell? w _ hw199_0)).trans hw199_0), ((HB.out.cell (World.block_lt_of_cell? w _ hw200_0)).trans hw200_0), ((HB.out.cell (World.block_lt_of_cell? w _ hw200_1)).trans hw200_1), ((HB.out.cell (World.block_lt_of_cell? w _ hw200_2)).trans hw200_2), ((HB.out.cell (World.block_lt_of_cell? w _ hw200_3)).trans hw200_3)⟩ (fun hHeld => ?_); refine with_tabW postbaglaw10_whole.tab7 postbaglaw10_whole.bits7 (fun HT_ HW_ => ?_)
             generalize wr.drew = w25 at HB hx197_0 hx197_1 hx197_2 hx197_3 hx198_0 hx198_1 hx198_2 hx198_3 hx199_0 hx200_0 hx200_1 hx200_2 hx200_3 hHeld ⊢
             refine pu_ 0 (some 30) ?_ (bs_ 1 55) rfl rfl (any_of HT_.out (by kernel_rfl)) (fun _ _ _ h => h) (y_ (by rfl) ?_) ?_ ?_ ?_
             rotate_left
             ·intro w'
              go_simp
              with_reducible rfl
             rotate_left
             ·simp only [Act.put, s1_, s2_, s3_, i64_w, i32_w]
              rfl
             refine pu_ 1 (some 31) ?_ (bs_ 2 54) rfl rfl (any_of HT_.out (by kernel_rfl)) (fun _ _ _ h => h) (y_ (by rfl) ?_) ?_ ?_ ?_
             rotate_left
             ·intro w'
              go_simp
              with_reducible rfl
             rotate_left
             ·simp only [Act.put, s1_, s2_, s3_, i64_w, i32_w]
              rfl
             refine pu_ 2 (some 32) ?_ (bs_ 3 53) rfl rfl (any_of HT_.out (by kernel_rfl)) (fun _ _ _ h => h) (y_ (by rfl) ?_) ?_ ?_ ?_
             rotate_left
             ·intro w'
              go_simp
              with_reducible rfl
             rotate_left
             ·simp only [Act.put, s1_, s2_, s3_, i64_w, i32_w]
              rfl
             refine pu_ 3 (some 33) ?_ (bs_ 4 52) rfl rfl (any_of HT_.out (by kernel_rfl)) (fun _ _ _ h => h) (y_ (by rfl) ?_) ?_ ?_ ?_
             rotate_left
             ·intro w'
              go_simp
              with_reducible rfl
             rotate_left
             ·simp only [Act.put, s1_, s2_, s3_, i64_w, i32_w]
              rfl
             refine pu_ 5 (some 35) ?_ #[true, true, true, true, false, true, false, false, false, false, false, false, false, false, false, false, false, false, false, false, false, false, false, false, false, false, false, false, false, false, false, false, false, false, false, false, false, false, false, false, false, false, false, false, false, false, false, false, false, false, false, false, false, false, false, false] rfl rfl (any_of HT_.out (by kernel_rfl)) (fun _ _ _ h => h) (y_ (by rfl) ?_) ?_ ?_ ?_
             rotate_left
             ·intro w'
              go_simp
              with_reducible rfl
             rotate_left
             ·simp only [Act.put, s1_, s2_, s3_, i64_w, i32_w]
              rfl
             refine pu_ 6 (some 36) ?_ #[true, true, true, true, false, true, true, false, false, false, false, false, false, false, false, false, false, false, false, false, false, false, false, false, false, false, false, false, false, false, false, false, false, false, false, false, false, false, false, false, false, false, false, false, false, false, false, false, false, false, false, false, false, false, false, false] rfl rfl (any_of HT_.out (by kernel_rfl)) (fun _ _ _ h => h) (y_ (by rfl) ?_) ?_ ?_ ?_
             rotate_left
             ·intro w'
              go_simp
              with_reducible rfl
             rotate_left
             ·simp only [Act.put, s1_, s2_, s3_, i64_w, i32_w]
              rfl
             refine pu_ 7 (some 37) ?_ #[true, true, true, true, false, true, true, true, false, false, false, false, false, false, false, false, false, false, false, false, false, false, false, false, false, false, false, false, false, false, false, false, false, false, false, false, false, false, false, false, false, false, false, false, false, false, false, false, false, false, false, false, false, false, false, false] rfl rfl (any_of HT_.out (by kernel_rfl)) (fun _ _ _ h => h) (y_ (by rfl) ?_) ?_ ?_ ?_
             rotate_left
             ·intro w'
              go_simp
              with_reducible rfl
             rotate_left
             ·simp only [Act.put, s1_, s2_, s3_, i64_w, i32_w]
              rfl
             refine take_ (i := 4) (N := some 34) (v := ?_) (a' := ?_) (bs_ 8 48) rfl rfl (take_ofW HT_.out HW_.out (by kernel_rfl)) (fun _ _ _ h => h) (Or.inl ⟨by rfl, ?_⟩) hHeld ?_ ?_
             rotate_left
             ·rintro w' ⟨s0, s1, s2, s3, s4, s5, s6, s7, s8, s9, s10, s11, s12⟩
              go_simp
              with_reducible rfl
             rotate_left
             ·simp only [Act.put, s1_, s2_, s3_, i64_w, i32_w]
              rfl
             refine pu_ 8 (some 38) ?_ (bs_ 9 47) rfl rfl (any_of HT_.out (by kernel_rfl)) (fun _ _ _ h => h) (y_ (by rfl) ?_) ?_ ?_ ?_
             rotate_left
             ·intro w'
              go_simp
              with_reducible rfl
             rotate_left
             ·simp only [Act.put, s1_, s2_, s3_, i64_w, i32_w]
              rfl
             refine pu_ 9 (some 39) ?_ (bs_ 10 46) rfl rfl (any_of HT_.out (by kernel_rfl)) (fun _ _ _ h => h) (y_ (by rfl) ?_) ?_ ?_ ?_
             rotate_left
             ·intro w'
              go_simp
              with_reducible rfl
             rotate_left
             ·simp only [Act.put, s1_, s2_, s3_, i64_w, i32_w]
              rfl
             refine pu_ 10 (some 40) ?_ (bs_ 11 45) rfl rfl (any_of HT_.out (by kernel_rfl)) (fun _ _ _ h => h) (y_ (by rfl) ?_) ?_ ?_ ?_
             rotate_left
             ·intro w'
              go_simp
              with_reducible rfl
             rotate_left
             ·simp only [Act.put, s1_, s2_, s3_, i64_w, i32_w]
              rfl
             refine pu_ 11 (some 41) ?_ (bs_ 12 44) rfl rfl (any_of HT_.out (by kernel_rfl)) (fun _ _ _ h => h) (y_ (by rfl) ?_) ?_ ?_ ?_
             rotate_left
             ·intro w'
              go_simp
              with_reducible rfl
             rotate_left
             ·simp only [Act.put, s1_, s2_, s3_, i64_w, i32_w]
              rfl
             refine pu_ 12 (some 42) ?_ (bs_ 13 43) rfl rfl (any_of HT_.out (by kernel_rfl)) (fun _ _ _ h => h) (y_ (by rfl) ?_) ?_ ?_ ?_
             rotate_left
             ·intro w'
              go_simp
              with_reducible rfl
             rotate_left
             ·simp only [Act.put, s1_, s2_, s3_, i64_w, i32_w]
              rfl
             refine pu_ 13 (some 43) ?_ (bs_ 14 42) rfl rfl (any_of HT_.out (by kernel_rfl)) (fun _ _ _ h => h) (y_ (by rfl) ?_) ?_ ?_ ?_
             rotate_left
             ·intro w'
              go_simp
              with_reducible rfl
             rotate_left
             ·simp only [Act.put, s1_, s2_, s3_, i64_w, i32_w]
              rfl
             refine pu_ 15 (some 45) ?_ #[true, true, true, true, true, true, true, true, true, true, true, true, true, true, false, true, false, false, false, false, false, false, false, false, false, false, false, false, false, false, false, false, false, false, false, false, false, false, false, false, false, false, false, false, false, false, false, false, false, false, false, false, false, false, false, false] rfl rfl (any_of HT_.out (by kernel_rfl)) (fun _ _ _ h => h) (y_ (by rfl) ?_) ?_ ?_ ?_
             rotate_left
             ·intro w'
              go_simp
              with_reducible rfl
             rotate_left
             ·simp only [Act.put, s1_, s2_, s3_, i64_w, i32_w]
              rfl
             refine pu_ 16 (some 46) ?_ #[true, true, true, true, true, true, true, true, true, true, true, true, true, true, false, true, true, false, false, false, false, false, false, false, false, false, false, false, false, false, false, false, false, false, false, false, false, false, false, false, false, false, false, false, false, false, false, false, false, false, false, false, false, false, false, false] rfl rfl (any_of HT_.out (by kernel_rfl)) (fun _ _ _ h => h) (y_ (by rfl) ?_) ?_ ?_ ?_
             rotate_left
             ·intro w'
              go_simp
              with_reducible rfl
             rotate_left
             ·simp only [Act.put, s1_, s2_, s3_, i64_w, i32_w]
              rfl
             refine pu_ 17 (some 47) ?_ #[true, true, true, true, true, true, true, true, true, true, true, true, true, true, false, true, true, true, false, false, false, false, false, false, false, false, false, false, false, false, false, false, false, false, false, false, false, false, false, false, false, false, false, false, false, false, false, false, false, false, false, false, false, false, false, false] rfl rfl (any_of HT_.out (by kernel_rfl)) (fun _ _ _ h => h) (y_ (by rfl) ?_) ?_ ?_ ?_
             rotate_left
             ·intro w'
              go_simp
              with_reducible rfl
             rotate_left
             ·simp only [Act.put, s1_, s2_, s3_, i64_w, i32_w]
              rfl
             refine take_ (i := 14) (N := some 44) (v := ?_) (a' := ?_) (bs_ 18 38) rfl rfl (take_ofW HT_.out HW_.out (by kernel_rfl)) (fun _ _ _ h => h) (Or.inl ⟨by rfl, ?_⟩) hHeld ?_ ?_
             rotate_left
             ·rintro w' ⟨s0, s1, s2, s3, s4, s5, s6, s7, s8, s9, s10, s11, s12⟩
              go_simp
              with_reducible rfl
             rotate_left
             ·simp only [Act.put, s1_, s2_, s3_, i64_w, i32_w]
              rfl
             refine take_ (i := 18) (N := some 48) (v := ?_) (a' := ?_) (bs_ 19 37) rfl rfl (take_ofW HT_.out HW_.out (by kernel_rfl)) (fun _ _ _ h => h) (Or.inl ⟨by rfl, ?_⟩) hHeld ?_ ?_
             rotate_left
             ·rintro w' ⟨s0, s1, s2, s3, s4, s5, s6, s7, s8, s9, s10, s11, s12⟩
              go_simp
              with_reducible rfl
             rotate_left
             ·simp only [Act.put, s1_, s2_, s3_, i64_w, i32_w]
              rfl
             refine pu_ 19 (some 49) ?_ (bs_ 20 36) rfl rfl (any_of HT_.out (by kernel_rfl)) (fun _ _ _ h => h) (y_ (by rfl) ?_) ?_ ?_ ?_
             rotate_left
             ·intro w'
              go_simp
              with_reducible rfl
             rotate_left
             ·simp only [Act.put, s1_, s2_, s3_, i64_w, i32_w]
              rfl
             refine pu_ 20 (some 50) ?_ (bs_ 21 35) rfl rfl (any_of HT_.out (by kernel_rfl)) (fun _ _ _ h => h) (y_ (by rfl) ?_) ?_ ?_ ?_
             rotate_left
             ·intro w'
              go_simp
              with_reducible rfl
             rotate_left
             ·simp only [Act.put, s1_, s2_, s3_, i64_w, i32_w]
              rfl
             refine pu_ 21 (some 51) ?_ (bs_ 22 34) rfl rfl (any_of HT_.out (by kernel_rfl)) (fun _ _ _ h => h) (y_ (by rfl) ?_) ?_ ?_ ?_
             rotate_left
             ·intro w'
              go_simp
              with_reducible rfl
             rotate_left
             ·simp only [Act.put, s1_, s2_, s3_, i64_w, i32_w]
              rfl
             refine pu_ 22 (some 52) ?_ (bs_ 23 33) rfl rfl (any_of HT_.out (by kernel_rfl)) (fun _ _ _ h => h) (y_ (by rfl) ?_) ?_ ?_ ?_
             rotate_left
             ·intro w'
              go_simp
              with_reducible rfl
             rotate_left
             ·simp only [Act.put, s1_, s2_, s3_, i64_w, i32_w]
              rfl
             refine pu_ 23 (some 53) ?_ (bs_ 24 32) rfl rfl (any_of HT_.out (by kernel_rfl)) (fun _ _ _ h => h) (y_ (by rfl) ?_) ?_ ?_ ?_
             rotate_left
             ·intro w'
              go_simp
              with_reducible rfl
             rotate_left
             ·simp only [Act.put, s1_, s2_, s3_, i64_w, i32_w]
              rfl
             refine pu_ 24 (some 54) ?_ (bs_ 25 31) rfl rfl (any_of HT_.out (by kernel_rfl)) (fun _ _ _ h => h) (y_ (by rfl) ?_) ?_ ?_ ?_
             rotate_left
             ·intro w'
              go_simp
              with_reducible rfl
             rotate_left
             ·simp only [Act.put, s1_, s2_, s3_, i64_w, i32_w]
              rfl
             refine pu_ 25 (some 55) ?_ (bs_ 26 30) rfl rfl (any_of HT_.out (by kernel_rfl)) (fun _ _ _ h => h) (y_ (by rfl) ?_) ?_ ?_ ?_
             rotate_left
             ·intro w'
              go_simp
              with_reducible rfl
             rotate_left
             ·simp only [Act.put, s1_, s2_, s3_, i64_w, i32_w]
              rfl
             refine pu_ 27 (some 57) ?_ #[true, true, true, true, true, true, true, true, true, true, true, true, true, true, true, true, true, true, true, true, true, true, true, true, true, true, false, true, false, false, false, false, false, false, false, false, false, false, false, false, false, false, false, false, false, false, false, false, false, false, false, false, false, false, false, false] rfl rfl (any_of HT_.out (by kernel_rfl)) (fun _ _ _ h => h) (y_ (by rfl) ?_) ?_ ?_ ?_
             rotate_left
             ·intro w'
              go_simp
              with_reducible rfl
             rotate_left
             ·simp only [Act.put, s1_, s2_, s3_, i64_w, i32_w]
              rfl
             refine take_ (i := 26) (N := some 56) (v := ?_) (a' := ?_) (bs_ 28 28) rfl rfl (take_ofW HT_.out HW_.out (by kernel_rfl)) (fun _ _ _ h => h) (Or.inl ⟨by rfl, ?_⟩) hHeld ?_ ?_
             rotate_left
             ·rintro w' ⟨s0, s1, s2, s3, s4, s5, s6, s7, s8, s9, s10, s11, s12⟩
              go_simp
              with_reducible rfl
             rotate_left
             ·simp only [Act.put, s1_, s2_, s3_, i64_w, i32_w]
              rfl
             refine pu_ 28 (some 58) ?_ (bs_ 29 27) rfl rfl (any_of HT_.out (by kernel_rfl)) (fun _ _ _ h => h) (y_ (by rfl) ?_) ?_ ?_ ?_
             rotate_left
             ·intro w'
              go_simp
              with_reducible rfl
             rotate_left
             ·simp only [Act.put, s1_, s2_, s3_, i64_w, i32_w]
              rfl
             refine pu_ 29 (some 59) ?_ (bs_ 30 26) rfl rfl (any_of HT_.out (by kernel_rfl)) (fun _ _ _ h => h) (y_ (by rfl) ?_) ?_ ?_ ?_
             rotate_left
             ·intro w'
              go_simp
              with_reducible rfl
             rotate_left
             ·simp only [Act.put, s1_, s2_, s3_, i64_w, i32_w]
              rfl
             refine pu_ 30 (some 60) ?_ (bs_ 31 25) rfl rfl (any_of HT_.out (by kernel_rfl)) (fun _ _ _ h => h) (y_ (by rfl) ?_) ?_ ?_ ?_
             rotate_left
             ·intro w'
              go_simp
              with_reducible rfl
             rotate_left
             ·simp only [Act.put, s1_, s2_, s3_, i64_w, i32_w]
              rfl
             refine pu_ 31 (some 61) undef (bs_ 32 24) rfl rfl (any_of HT_.out (by kernel_rfl)) (fun _ _ _ h => h) (n_ (by rfl)) ?_ ?_ ?_
             rotate_left
             ·simp only [Act.put, s1_, s2_, s3_, i64_w, i32_w]
              rfl
             refine pu_ 32 (some 62) undef (bs_ 33 23) rfl rfl (any_of HT_.out (by kernel_rfl)) (fun _ _ _ h => h) (n_ (by rfl)) ?_ ?_ ?_
             rotate_left
             ·simp only [Act.put, s1_, s2_, s3_, i64_w, i32_w]
              rfl
             refine pu_ 33 (some 63) undef (bs_ 34 22) rfl rfl (any_of HT_.out (by kernel_rfl)) (fun _ _ _ h => h) (n_ (by rfl)) ?_ ?_ ?_
             rotate_left
             ·simp only [Act.put, s1_, s2_, s3_, i64_w, i32_w]
              rfl
             refine pu_ 34 (some 64) undef (bs_ 35 21) rfl rfl (any_of HT_.out (by kernel_rfl)) (fun _ _ _ h => h) (n_ (by rfl)) ?_ ?_ ?_
             rotate_left
             ·simp only [Act.put, s1_, s2_, s3_, i64_w, i32_w]
              rfl
             refine pu_ 35 (some 65) undef (bs_ 36 20) rfl rfl (any_of HT_.out (by kernel_rfl)) (fun _ _ _ h => h) (n_ (by rfl)) ?_ ?_ ?_
             rotate_left
             ·simp only [Act.put, s1_, s2_, s3_, i64_w, i32_w]
              rfl
             refine pu_ 36 (some 66) undef (bs_ 37 19) rfl rfl (any_of HT_.out (by kernel_rfl)) (fun _ _ _ h => h) (n_ (by rfl)) ?_ ?_ ?_
             rotate_left
             ·simp only [Act.put, s1_, s2_, s3_, i64_w, i32_w]
              rfl
             refine pu_ 37 (some 67) undef (bs_ 38 18) rfl rfl (any_of HT_.out (by kernel_rfl)) (fun _ _ _ h => h) (n_ (by rfl)) ?_ ?_ ?_
             rotate_left
             ·simp only [Act.put, s1_, s2_, s3_, i64_w, i32_w]
              rfl
             refine pu_ 38 (some 68) undef (bs_ 39 17) rfl rfl (any_of HT_.out (by kernel_rfl)) (fun _ _ _ h => h) (n_ (by rfl)) ?_ ?_ ?_
             rotate_left
             ·simp only [Act.put, s1_, s2_, s3_, i64_w, i32_w]
              rfl
             refine pu_ 39 (some 69) undef (bs_ 40 16) rfl rfl (any_of HT_.out (by kernel_rfl)) (fun _ _ _ h => h) (n_ (by rfl)) ?_ ?_ ?_
             rotate_left
             ·simp only [Act.put, s1_, s2_, s3_, i64_w, i32_w]
              rfl
             refine pu_ 40 (some 70) ?_ (bs_ 41 15) rfl rfl (any_of HT_.out (by kernel_rfl)) (fun _ _ _ h => h) (y_ (by rfl) ?_) ?_ ?_ ?_
             rotate_left
             ·intro w'
              go_simp
              with_reducible rfl
             rotate_left
             ·simp only [Act.put, s1_, s2_, s3_, i64_w, i32_w]
              rfl
             refine pu_ 41 (some 71) ?_ (bs_ 42 14) rfl rfl (any_of HT_.out (by kernel_rfl)) (fun _ _ _ h => h) (y_ (by rfl) ?_) ?_ ?_ ?_
             rotate_left
             ·intro w'
              go_simp
              with_reducible rfl
             rotate_left
             ·simp only [Act.put, s1_, s2_, s3_, i64_w, i32_w]
              rfl
             refine pu_ 42 (some 72) undef (bs_ 43 13) rfl rfl (any_of HT_.out (by kernel_rfl)) (fun _ _ _ h => h) (n_ (by rfl)) ?_ ?_ ?_
             rotate_left
             ·simp only [Act.put, s1_, s2_, s3_, i64_w, i32_w]
              rfl
             refine pu_ 43 (some 73) undef (bs_ 44 12) rfl rfl (any_of HT_.out (by kernel_rfl)) (fun _ _ _ h => h) (n_ (by rfl)) ?_ ?_ ?_
             rotate_left
             ·simp only [Act.put, s1_, s2_, s3_, i64_w, i32_w]
              rfl
             refine pu_ 44 (some 74) undef (bs_ 45 11) rfl rfl (any_of HT_.out (by kernel_rfl)) (fun _ _ _ h => h) (n_ (by rfl)) ?_ ?_ ?_
             rotate_left
             ·simp only [Act.put, s1_, s2_, s3_, i64_w, i32_w]
              rfl
             refine pu_ 45 (some 75) undef (bs_ 46 10) rfl rfl (any_of HT_.out (by kernel_rfl)) (fun _ _ _ h => h) (n_ (by rfl)) ?_ ?_ ?_
             rotate_left
             ·simp only [Act.put, s1_, s2_, s3_, i64_w, i32_w]
              rfl
             refine pu_ 46 (some 76) undef (bs_ 47 9) rfl rfl (any_of HT_.out (by kernel_rfl)) (fun _ _ _ h => h) (n_ (by rfl)) ?_ ?_ ?_
             rotate_left
             ·simp only [Act.put, s1_, s2_, s3_, i64_w, i32_w]
              rfl
             refine pu_ 47 (some 77) undef (bs_ 48 8) rfl rfl (any_of HT_.out (by kernel_rfl)) (fun _ _ _ h => h) (n_ (by rfl)) ?_ ?_ ?_
             rotate_left
             ·simp only [Act.put, s1_, s2_, s3_, i64_w, i32_w]
              rfl
             refine pu_ 48 (some 78) undef (bs_ 49 7) rfl rfl (any_of HT_.out (by kernel_rfl)) (fun _ _ _ h => h) (n_ (by rfl)) ?_ ?_ ?_
             rotate_left
             ·simp only [Act.put, s1_, s2_, s3_, i64_w, i32_w]
              rfl
             refine pu_ 49 (some 79) undef (bs_ 50 6) rfl rfl (any_of HT_.out (by kernel_rfl)) (fun _ _ _ h => h) (n_ (by rfl)) ?_ ?_ ?_
             rotate_left
             ·simp only [Act.put, s1_, s2_, s3_, i64_w, i32_w]
              rfl
             refine pu_ 50 (some 80) undef (bs_ 51 5) rfl rfl (any_of HT_.out (by kernel_rfl)) (fun _ _ _ h => h) (n_ (by rfl)) ?_ ?_ ?_
             rotate_left
             ·simp only [Act.put, s1_, s2_, s3_, i64_w, i32_w]
              rfl
             refine pu_ 51 (some 81) undef (bs_ 52 4) rfl rfl (any_of HT_.out (by kernel_rfl)) (fun _ _ _ h => h) (n_ (by rfl)) ?_ ?_ ?_
             rotate_left
             ·simp only [Act.put, s1_, s2_, s3_, i64_w, i32_w]
              rfl
             refine pu_ 52 (some 82) undef (bs_ 53 3) rfl rfl (any_of HT_.out (by kernel_rfl)) (fun _ _ _ h => h) (n_ (by rfl)) ?_ ?_ ?_
             rotate_left
             ·simp only [Act.put, s1_, s2_, s3_, i64_w, i32_w]
              rfl
             refine pu_ 53 (some 83) undef (bs_ 54 2) rfl rfl (any_of HT_.out (by kernel_rfl)) (fun _ _ _ h => h) (n_ (by rfl)) ?_ ?_ ?_
             rotate_left
             ·simp only [Act.put, s1_, s2_, s3_, i64_w, i32_w]
              rfl
             refine pu_ 54 (some 84) undef (bs_ 55 1) rfl rfl (any_of HT_.out (by kernel_rfl)) (fun _ _ _ h => h) (n_ (by rfl)) ?_ ?_ ?_
             rotate_left
             ·simp only [Act.put, s1_, s2_, s3_, i64_w, i32_w]
              rfl
             refine pu_ 55 (some 85) ?_ (bs_ 56 0) rfl rfl (any_of HT_.out (by kernel_rfl)) (fun _ _ _ h => h) (y_ (by rfl) ?_) ?_ ?_ ?_
             rotate_left
             ·intro w'
              go_simp
              with_reducible rfl
             rotate_left
             ·simp only [Act.put, s1_, s2_, s3_, i64_w, i32_w]
              rfl
             refine done_ (done_of HT_.out (by kernel_rfl)) ?_
             try go_wp2
             go_ret
             exact ⟨by first | rfl | (simp [errW_none, errW_some] <;> rfl) | (simp [*, errW_none, errW_some] <;> rfl), by repeat (first | (with_reducible first | exact HB.out | apply below_alloc | apply pw_below_drewN | apply below_drew1) | exact HB.out)⟩
           ·rw [if_neg c15] at H
            have c15b0 : (((rd_T49 l0 x14_2).f3).toList == (rdOf ByteArray.empty l3 x14_2).toList) = false := beq_eq_false_iff_ne.mpr c15
            have c15b1 : (((rd_T49 l0 x14_2).f3).toList != (rdOf ByteArray.empty l3 x14_2).toList) = true := bne_iff_ne.mpr c15
            obtain rfl := Option.some.inj H
            try go_wp2
            have n0_ := Aside0.mk (below_drew1 HB.out)
            clear HB
            have HB := n0_
            clear n0_
            have p197 : 0 ≤ (x14_2 : Int) := of_decide_eq_true (by first | (with_reducible assumption) | assumption)
            have q197 : x14_2 < (l0.length : Int) := of_decide_eq_true (by first | (with_reducible assumption) | assumption)
            obtain ⟨ad197, e197, hx197_0, hx197_1, hx197_2, hx197_3⟩ := at_T49 HR0.out x14_2 p197 q197
            have hw197_3 := hx197_3
            have hw197_2 := hx197_2
            have hw197_1 := hx197_1
            have hw197_0 := hx197_0
            cases e197
            replace hx197_0 := (HB.out.cell (World.block_lt_of_cell? w _ hx197_0)).trans hx197_0
            replace hx197_1 := (HB.out.cell (World.block_lt_of_cell? w _ hx197_1)).trans hx197_1
            replace hx197_2 := (HB.out.cell (World.block_lt_of_cell? w _ hx197_2)).trans hx197_2
            replace hx197_3 := (HB.out.cell (World.block_lt_of_cell? w _ hx197_3)).trans hx197_3
            replace p197 := eq_true p197
            replace q197 := eq_true q197
            have p198 : 0 ≤ (x14_2 : Int) := of_decide_eq_true (by first | (with_reducible assumption) | assumption)
            have q198 : x14_2 < (l0.length : Int) := of_decide_eq_true (by first | (with_reducible assumption) | assumption)
            obtain ⟨ad198, e198, hx198_0, hx198_1, hx198_2, hx198_3⟩ := at_T49 HR0.out x14_2 p198 q198
            have hw198_3 := hx198_3
            have hw198_2 := hx198_2
            have hw198_1 := hx198_1
            have hw198_0 := hx198_0
            obtain rfl : ad197 = ad198 := (by injection e198)
            replace hx198_0 := (HB.out.cell (World.block_lt_of_cell? w _ hx198_0)).trans hx198_0
            replace hx198_1 := (HB.out.cell (World.block_lt_of_cell? w _ hx198_1)).trans hx198_1
            replace hx198_2 := (HB.out.cell (World.block_lt_of_cell? w _ hx198_2)).trans hx198_2
            replace hx198_3 := (HB.out.cell (World.block_lt_of_cell? w _ hx198_3)).trans hx198_3
            replace p198 := eq_true p198
            replace q198 := eq_true q198
            have p199 : 0 ≤ (x14_2 : Int) := of_decide_eq_true (by first | (with_reducible assumption) | assumption)
            have q199 : x14_2 < (l3.length : Int) := of_decide_eq_true (by first | (with_reducible assumption) | assumption)
            obtain ⟨ad199, e199, hx199_0⟩ := Kd.at_string HR3.out x14_2 p199 q199
            have hw199_0 := hx199_0
            cases e199
            replace hx199_0 := (HB.out.cell (World.block_lt_of_cell? w _ hx199_0)).trans hx199_0
            replace p199 := eq_true p199
            replace q199 := eq_true q199
            refine start_ (n := 56) (S := fun w' => w'.cell? (ad197.add ((x14_2).toNat * 4)) = some (.int .i64 ((rd_T49 l0 x14_2).f0)) ∧ w'.cell? ⟨(ad197.add ((x14_2).toNat * 4)).block, (ad197.add ((x14_2).toNat * 4)).off + 1, none⟩ = some (.int .i64 ((rd_T49 l0 x14_2).f1)) ∧ w'.cell? ⟨(ad197.add ((x14_2).toNat * 4)).block, (ad197.add ((x14_2).toNat * 4)).off + 2, none⟩ = some (.int .i64 ((rd_T49 l0 x14_2).f2)) ∧ w'.cell? ⟨(ad197.add ((x14_2).toNat * 4)).block, (ad197.add ((x14_2).toNat * 4)).off + 3, none⟩ = some (.string ((rd_T49 l0 x14_2).f3)) ∧ w'.cell? (ad197.add ((x14_2).toNat * 4)) = some (.int .i64 ((rd_T49 l0 x14_2).f0)) ∧ w'.cell? ⟨(ad197.add ((x14_2).toNat * 4)).block, (ad197.add ((x14_2).toNat * 4)).off + 1, none⟩ = some (.int .i64 ((rd_T49 l0 x14_2).f1)) ∧ w'.cell? ⟨(ad197.add ((x14_2).toNat * 4)).block, (ad197.add ((x14_2).toNat * 4)).off + 2, none⟩ = some (.int .i64 ((rd_T49 l0 x14_2).f2)) ∧ w'.cell? ⟨(ad197.add ((x14_2).toNat * 4)).block, (ad197.add ((x14_2).toNat * 4)).off + 3, none⟩ = some (.string ((rd_T49 l0 x14_2).f3)) ∧ w'.cell? (ad199.add (x14_2).toNat) = some (.string (rdOf ByteArray.empty l3 x14_2))) (ds := []) (bs_ 0 56) (by kernel_rfl) rfl rfl ⟨((HB.out.cell (World.block_lt_of_cell? w _ hw197_0)).trans hw197_0), ((HB.out.cell (World.block_lt_of_cell? w _ hw197_1)).trans hw197_1), ((HB.out.cell (World.block_lt_of_cell? w _ hw197_2)).trans hw197_2), ((HB.out.cell (World.block_lt_of_cell? w _ hw197_3)).trans hw197_3), ((HB.out.cell (World.block_lt_of_cell? w _ hw198_0)).trans hw198_0), ((HB.out.cell (World.block_lt_of_cell? w _ hw198_1)).trans hw198_1), ((HB.out.cell (World.block_lt_of_cell? w _ hw198_2)).trans hw198_2), ((HB.out.cell (World.block_lt_of_cell? w _ hw198_3)).trans hw198_3), ((HB.out.cell (World.block_lt_of_cell? w _ hw199_0)).trans hw199_0)⟩ (fun hHeld => ?_); refine with_tabW postbaglaw10_whole.tab7 postbaglaw10_whole.bits7 (fun HT_ HW_ => ?_)
            generalize wr.drew = w26 at HB hx197_0 hx197_1 hx197_2 hx197_3 hx198_0 hx198_1 hx198_2 hx198_3 hx199_0 hHeld ⊢
            refine pu_ 0 (some 30) ?_ (bs_ 1 55) rfl rfl (any_of HT_.out (by kernel_rfl)) (fun _ _ _ h => h) (y_ (by rfl) ?_) ?_ ?_ ?_
            rotate_left
            ·intro w'
             go_simp
             with_reducible rfl
            rotate_left
            ·simp only [Act.put, s1_, s2_, s3_, i64_w, i32_w]
             rfl
            refine pu_ 1 (some 31) ?_ (bs_ 2 54) rfl rfl (any_of HT_.out (by kernel_rfl)) (fun _ _ _ h => h) (y_ (by rfl) ?_) ?_ ?_ ?_
            rotate_left
            ·intro w'
             go_simp
             with_reducible rfl
            rotate_left
            ·simp only [Act.put, s1_, s2_, s3_, i64_w, i32_w]
             rfl
            refine pu_ 2 (some 32) ?_ (bs_ 3 53) rfl rfl (any_of HT_.out (by kernel_rfl)) (fun _ _ _ h => h) (y_ (by rfl) ?_) ?_ ?_ ?_
            rotate_left
            ·intro w'
             go_simp
             with_reducible rfl
            rotate_left
            ·simp only [Act.put, s1_, s2_, s3_, i64_w, i32_w]
             rfl
            refine pu_ 3 (some 33) ?_ (bs_ 4 52) rfl rfl (any_of HT_.out (by kernel_rfl)) (fun _ _ _ h => h) (y_ (by rfl) ?_) ?_ ?_ ?_
            rotate_left
            ·intro w'
             go_simp
             with_reducible rfl
            rotate_left
            ·simp only [Act.put, s1_, s2_, s3_, i64_w, i32_w]
             rfl
            refine pu_ 5 (some 35) ?_ #[true, true, true, true, false, true, false, false, false, false, false, false, false, false, false, false, false, false, false, false, false, false, false, false, false, false, false, false, false, false, false, false, false, false, false, false, false, false, false, false, false, false, false, false, false, false, false, false, false, false, false, false, false, false, false, false] rfl rfl (any_of HT_.out (by kernel_rfl)) (fun _ _ _ h => h) (y_ (by rfl) ?_) ?_ ?_ ?_
            rotate_left
            ·intro w'
             go_simp
             with_reducible rfl
            rotate_left
            ·simp only [Act.put, s1_, s2_, s3_, i64_w, i32_w]
             rfl
            refine pu_ 6 (some 36) ?_ #[true, true, true, true, false, true, true, false, false, false, false, false, false, false, false, false, false, false, false, false, false, false, false, false, false, false, false, false, false, false, false, false, false, false, false, false, false, false, false, false, false, false, false, false, false, false, false, false, false, false, false, false, false, false, false, false] rfl rfl (any_of HT_.out (by kernel_rfl)) (fun _ _ _ h => h) (y_ (by rfl) ?_) ?_ ?_ ?_
            rotate_left
            ·intro w'
             go_simp
             with_reducible rfl
            rotate_left
            ·simp only [Act.put, s1_, s2_, s3_, i64_w, i32_w]
             rfl
            refine pu_ 7 (some 37) ?_ #[true, true, true, true, false, true, true, true, false, false, false, false, false, false, false, false, false, false, false, false, false, false, false, false, false, false, false, false, false, false, false, false, false, false, false, false, false, false, false, false, false, false, false, false, false, false, false, false, false, false, false, false, false, false, false, false] rfl rfl (any_of HT_.out (by kernel_rfl)) (fun _ _ _ h => h) (y_ (by rfl) ?_) ?_ ?_ ?_
            rotate_left
            ·intro w'
             go_simp
             with_reducible rfl
            rotate_left
            ·simp only [Act.put, s1_, s2_, s3_, i64_w, i32_w]
             rfl
            refine take_ (i := 4) (N := some 34) (v := ?_) (a' := ?_) (bs_ 8 48) rfl rfl (take_ofW HT_.out HW_.out (by kernel_rfl)) (fun _ _ _ h => h) (Or.inl ⟨by rfl, ?_⟩) hHeld ?_ ?_
            rotate_left
            ·rintro w' ⟨s0, s1, s2, s3, s4, s5, s6, s7, s8⟩
             go_simp
             with_reducible rfl
            rotate_left
            ·simp only [Act.put, s1_, s2_, s3_, i64_w, i32_w]
             rfl
            refine pu_ 8 (some 38) ?_ (bs_ 9 47) rfl rfl (any_of HT_.out (by kernel_rfl)) (fun _ _ _ h => h) (y_ (by rfl) ?_) ?_ ?_ ?_
            rotate_left
            ·intro w'
             go_simp
             with_reducible rfl
            rotate_left
            ·simp only [Act.put, s1_, s2_, s3_, i64_w, i32_w]
             rfl
            refine pu_ 9 (some 39) ?_ (bs_ 10 46) rfl rfl (any_of HT_.out (by kernel_rfl)) (fun _ _ _ h => h) (y_ (by rfl) ?_) ?_ ?_ ?_
            rotate_left
            ·intro w'
             go_simp
             with_reducible rfl
            rotate_left
            ·simp only [Act.put, s1_, s2_, s3_, i64_w, i32_w]
             rfl
            refine pu_ 10 (some 40) ?_ (bs_ 11 45) rfl rfl (any_of HT_.out (by kernel_rfl)) (fun _ _ _ h => h) (y_ (by rfl) ?_) ?_ ?_ ?_
            rotate_left
            ·intro w'
             go_simp
             with_reducible rfl
            rotate_left
            ·simp only [Act.put, s1_, s2_, s3_, i64_w, i32_w]
             rfl
            refine pu_ 11 (some 41) ?_ (bs_ 12 44) rfl rfl (any_of HT_.out (by kernel_rfl)) (fun _ _ _ h => h) (y_ (by rfl) ?_) ?_ ?_ ?_
            rotate_left
            ·intro w'
             go_simp
             with_reducible rfl
            rotate_left
            ·simp only [Act.put, s1_, s2_, s3_, i64_w, i32_w]
             rfl
            refine pu_ 12 (some 42) ?_ (bs_ 13 43) rfl rfl (any_of HT_.out (by kernel_rfl)) (fun _ _ _ h => h) (y_ (by rfl) ?_) ?_ ?_ ?_
            rotate_left
            ·intro w'
             go_simp
             with_reducible rfl
            rotate_left
            ·simp only [Act.put, s1_, s2_, s3_, i64_w, i32_w]
             rfl
            refine pu_ 13 (some 43) ?_ (bs_ 14 42) rfl rfl (any_of HT_.out (by kernel_rfl)) (fun _ _ _ h => h) (y_ (by rfl) ?_) ?_ ?_ ?_
            rotate_left
            ·intro w'
             go_simp
             with_reducible rfl
            rotate_left
            ·simp only [Act.put, s1_, s2_, s3_, i64_w, i32_w]
             rfl
            refine pu_ 15 (some 45) ?_ #[true, true, true, true, true, true, true, true, true, true, true, true, true, true, false, true, false, false, false, false, false, false, false, false, false, false, false, false, false, false, false, false, false, false, false, false, false, false, false, false, false, false, false, false, false, false, false, false, false, false, false, false, false, false, false, false] rfl rfl (any_of HT_.out (by kernel_rfl)) (fun _ _ _ h => h) (y_ (by rfl) ?_) ?_ ?_ ?_
            rotate_left
            ·intro w'
             go_simp
             with_reducible rfl
            rotate_left
            ·simp only [Act.put, s1_, s2_, s3_, i64_w, i32_w]
             rfl
            refine pu_ 16 (some 46) ?_ #[true, true, true, true, true, true, true, true, true, true, true, true, true, true, false, true, true, false, false, false, false, false, false, false, false, false, false, false, false, false, false, false, false, false, false, false, false, false, false, false, false, false, false, false, false, false, false, false, false, false, false, false, false, false, false, false] rfl rfl (any_of HT_.out (by kernel_rfl)) (fun _ _ _ h => h) (y_ (by rfl) ?_) ?_ ?_ ?_
            rotate_left
            ·intro w'
             go_simp
             with_reducible rfl
            rotate_left
            ·simp only [Act.put, s1_, s2_, s3_, i64_w, i32_w]
             rfl
            refine pu_ 17 (some 47) ?_ #[true, true, true, true, true, true, true, true, true, true, true, true, true, true, false, true, true, true, false, false, false, false, false, false, false, false, false, false, false, false, false, false, false, false, false, false, false, false, false, false, false, false, false, false, false, false, false, false, false, false, false, false, false, false, false, false] rfl rfl (any_of HT_.out (by kernel_rfl)) (fun _ _ _ h => h) (y_ (by rfl) ?_) ?_ ?_ ?_
            rotate_left
            ·intro w'
             go_simp
             with_reducible rfl
            rotate_left
            ·simp only [Act.put, s1_, s2_, s3_, i64_w, i32_w]
             rfl
            refine take_ (i := 14) (N := some 44) (v := ?_) (a' := ?_) (bs_ 18 38) rfl rfl (take_ofW HT_.out HW_.out (by kernel_rfl)) (fun _ _ _ h => h) (Or.inl ⟨by rfl, ?_⟩) hHeld ?_ ?_
            rotate_left
            ·rintro w' ⟨s0, s1, s2, s3, s4, s5, s6, s7, s8⟩
             go_simp
             with_reducible rfl
            rotate_left
            ·simp only [Act.put, s1_, s2_, s3_, i64_w, i32_w]
             rfl
            refine take_ (i := 18) (N := some 48) (v := ?_) (a' := ?_) (bs_ 19 37) rfl rfl (take_ofW HT_.out HW_.out (by kernel_rfl)) (fun _ _ _ h => h) (Or.inl ⟨by rfl, ?_⟩) hHeld ?_ ?_
            rotate_left
            ·rintro w' ⟨s0, s1, s2, s3, s4, s5, s6, s7, s8⟩
             go_simp
             with_reducible rfl
            rotate_left
            ·simp only [Act.put, s1_, s2_, s3_, i64_w, i32_w]
             rfl
            refine pu_ 19 (some 49) ?_ (bs_ 20 36) rfl rfl (any_of HT_.out (by kernel_rfl)) (fun _ _ _ h => h) (y_ (by rfl) ?_) ?_ ?_ ?_
            rotate_left
            ·intro w'
             go_simp
             with_reducible rfl
            rotate_left
            ·simp only [Act.put, s1_, s2_, s3_, i64_w, i32_w]
             rfl
            refine pu_ 20 (some 50) ?_ (bs_ 21 35) rfl rfl (any_of HT_.out (by kernel_rfl)) (fun _ _ _ h => h) (y_ (by rfl) ?_) ?_ ?_ ?_
            rotate_left
            ·intro w'
             go_simp
             with_reducible rfl
            rotate_left
            ·simp only [Act.put, s1_, s2_, s3_, i64_w, i32_w]
             rfl
            refine pu_ 21 (some 51) ?_ (bs_ 22 34) rfl rfl (any_of HT_.out (by kernel_rfl)) (fun _ _ _ h => h) (y_ (by rfl) ?_) ?_ ?_ ?_
            rotate_left
            ·intro w'
             go_simp
             with_reducible rfl
            rotate_left
            ·simp only [Act.put, s1_, s2_, s3_, i64_w, i32_w]
             rfl
            refine pu_ 22 (some 52) undef (bs_ 23 33) rfl rfl (any_of HT_.out (by kernel_rfl)) (fun _ _ _ h => h) (n_ (by rfl)) ?_ ?_ ?_
            rotate_left
            ·simp only [Act.put, s1_, s2_, s3_, i64_w, i32_w]
             rfl
            refine pu_ 23 (some 53) undef (bs_ 24 32) rfl rfl (any_of HT_.out (by kernel_rfl)) (fun _ _ _ h => h) (n_ (by rfl)) ?_ ?_ ?_
            rotate_left
            ·simp only [Act.put, s1_, s2_, s3_, i64_w, i32_w]
             rfl
            refine pu_ 24 (some 54) undef (bs_ 25 31) rfl rfl (any_of HT_.out (by kernel_rfl)) (fun _ _ _ h => h) (n_ (by rfl)) ?_ ?_ ?_
            rotate_left
            ·simp only [Act.put, s1_, s2_, s3_, i64_w, i32_w]
             rfl
            refine pu_ 25 (some 55) undef (bs_ 26 30) rfl rfl (any_of HT_.out (by kernel_rfl)) (fun _ _ _ h => h) (n_ (by rfl)) ?_ ?_ ?_
            rotate_left
            ·simp only [Act.put, s1_, s2_, s3_, i64_w, i32_w]
             rfl
            refine pu_ 26 (some 56) undef (bs_ 27 29) rfl rfl (any_of HT_.out (by kernel_rfl)) (fun _ _ _ h => h) (n_ (by rfl)) ?_ ?_ ?_
            rotate_left
            ·simp only [Act.put, s1_, s2_, s3_, i64_w, i32_w]
             rfl
            refine pu_ 27 (some 57) undef (bs_ 28 28) rfl rfl (any_of HT_.out (by kernel_rfl)) (fun _ _ _ h => h) (n_ (by rfl)) ?_ ?_ ?_
            rotate_left
            ·simp only [Act.put, s1_, s2_, s3_, i64_w, i32_w]
             rfl
            refine pu_ 28 (some 58) undef (bs_ 29 27) rfl rfl (any_of HT_.out (by kernel_rfl)) (fun _ _ _ h => h) (n_ (by rfl)) ?_ ?_ ?_
            rotate_left
            ·simp only [Act.put, s1_, s2_, s3_, i64_w, i32_w]
             rfl
            refine pu_ 29 (some 59) ?_ (bs_ 30 26) rfl rfl (any_of HT_.out (by kernel_rfl)) (fun _ _ _ h => h) (y_ (by rfl) ?_) ?_ ?_ ?_
            rotate_left
            ·intro w'
             go_simp
             with_reducible rfl
            rotate_left
            ·simp only [Act.put, s1_, s2_, s3_, i64_w, i32_w]
             rfl
            refine pu_ 30 (some 60) ?_ (bs_ 31 25) rfl rfl (any_of HT_.out (by kernel_rfl)) (fun _ _ _ h => h) (y_ (by rfl) ?_) ?_ ?_ ?_
            rotate_left
            ·intro w'
             go_simp
             with_reducible rfl
            rotate_left
            ·simp only [Act.put, s1_, s2_, s3_, i64_w, i32_w]
             rfl
            refine pu_ 31 (some 61) undef (bs_ 32 24) rfl rfl (any_of HT_.out (by kernel_rfl)) (fun _ _ _ h => h) (n_ (by rfl)) ?_ ?_ ?_
            rotate_left
            ·simp only [Act.put, s1_, s2_, s3_, i64_w, i32_w]
             rfl
            refine pu_ 32 (some 62) undef (bs_ 33 23) rfl rfl (any_of HT_.out (by kernel_rfl)) (fun _ _ _ h => h) (n_ (by rfl)) ?_ ?_ ?_
            rotate_left
            ·simp only [Act.put, s1_, s2_, s3_, i64_w, i32_w]
             rfl
            refine pu_ 33 (some 63) undef (bs_ 34 22) rfl rfl (any_of HT_.out (by kernel_rfl)) (fun _ _ _ h => h) (n_ (by rfl)) ?_ ?_ ?_
            rotate_left
            ·simp only [Act.put, s1_, s2_, s3_, i64_w, i32_w]
             rfl
            refine pu_ 34 (some 64) undef (bs_ 35 21) rfl rfl (any_of HT_.out (by kernel_rfl)) (fun _ _ _ h => h) (n_ (by rfl)) ?_ ?_ ?_
            rotate_left
            ·simp only [Act.put, s1_, s2_, s3_, i64_w, i32_w]
             rfl
            refine pu_ 35 (some 65) undef (bs_ 36 20) rfl rfl (any_of HT_.out (by kernel_rfl)) (fun _ _ _ h => h) (n_ (by rfl)) ?_ ?_ ?_
            rotate_left
            ·simp only [Act.put, s1_, s2_, s3_, i64_w, i32_w]
             rfl
            refine pu_ 36 (some 66) undef (bs_ 37 19) rfl rfl (any_of HT_.out (by kernel_rfl)) (fun _ _ _ h => h) (n_ (by rfl)) ?_ ?_ ?_
            rotate_left
            ·simp only [Act.put, s1_, s2_, s3_, i64_w, i32_w]
             rfl
            refine pu_ 37 (some 67) undef (bs_ 38 18) rfl rfl (any_of HT_.out (by kernel_rfl)) (fun _ _ _ h => h) (n_ (by rfl)) ?_ ?_ ?_
            rotate_left
            ·simp only [Act.put, s1_, s2_, s3_, i64_w, i32_w]
             rfl
            refine pu_ 38 (some 68) undef (bs_ 39 17) rfl rfl (any_of HT_.out (by kernel_rfl)) (fun _ _ _ h => h) (n_ (by rfl)) ?_ ?_ ?_
            rotate_left
            ·simp only [Act.put, s1_, s2_, s3_, i64_w, i32_w]
             rfl
            refine pu_ 39 (some 69) undef (bs_ 40 16) rfl rfl (any_of HT_.out (by kernel_rfl)) (fun _ _ _ h => h) (n_ (by rfl)) ?_ ?_ ?_
            rotate_left
            ·simp only [Act.put, s1_, s2_, s3_, i64_w, i32_w]
             rfl
            refine pu_ 40 (some 70) ?_ (bs_ 41 15) rfl rfl (any_of HT_.out (by kernel_rfl)) (fun _ _ _ h => h) (y_ (by rfl) ?_) ?_ ?_ ?_
            rotate_left
            ·intro w'
             go_simp
             with_reducible rfl
            rotate_left
            ·simp only [Act.put, s1_, s2_, s3_, i64_w, i32_w]
             rfl
            refine pu_ 41 (some 71) ?_ (bs_ 42 14) rfl rfl (any_of HT_.out (by kernel_rfl)) (fun _ _ _ h => h) (y_ (by rfl) ?_) ?_ ?_ ?_
            rotate_left
            ·intro w'
             go_simp
             with_reducible rfl
            rotate_left
            ·simp only [Act.put, s1_, s2_, s3_, i64_w, i32_w]
             rfl
            refine pu_ 42 (some 72) undef (bs_ 43 13) rfl rfl (any_of HT_.out (by kernel_rfl)) (fun _ _ _ h => h) (n_ (by rfl)) ?_ ?_ ?_
            rotate_left
            ·simp only [Act.put, s1_, s2_, s3_, i64_w, i32_w]
             rfl
            refine pu_ 43 (some 73) undef (bs_ 44 12) rfl rfl (any_of HT_.out (by kernel_rfl)) (fun _ _ _ h => h) (n_ (by rfl)) ?_ ?_ ?_
            rotate_left
            ·simp only [Act.put, s1_, s2_, s3_, i64_w, i32_w]
             rfl
            refine pu_ 44 (some 74) undef (bs_ 45 11) rfl rfl (any_of HT_.out (by kernel_rfl)) (fun _ _ _ h => h) (n_ (by rfl)) ?_ ?_ ?_
            rotate_left
            ·simp only [Act.put, s1_, s2_, s3_, i64_w, i32_w]
             rfl
            refine pu_ 45 (some 75) undef (bs_ 46 10) rfl rfl (any_of HT_.out (by kernel_rfl)) (fun _ _ _ h => h) (n_ (by rfl)) ?_ ?_ ?_
            rotate_left
            ·simp only [Act.put, s1_, s2_, s3_, i64_w, i32_w]
             rfl
            refine pu_ 46 (some 76) undef (bs_ 47 9) rfl rfl (any_of HT_.out (by kernel_rfl)) (fun _ _ _ h => h) (n_ (by rfl)) ?_ ?_ ?_
            rotate_left
            ·simp only [Act.put, s1_, s2_, s3_, i64_w, i32_w]
             rfl
            refine pu_ 47 (some 77) undef (bs_ 48 8) rfl rfl (any_of HT_.out (by kernel_rfl)) (fun _ _ _ h => h) (n_ (by rfl)) ?_ ?_ ?_
            rotate_left
            ·simp only [Act.put, s1_, s2_, s3_, i64_w, i32_w]
             rfl
            refine pu_ 48 (some 78) undef (bs_ 49 7) rfl rfl (any_of HT_.out (by kernel_rfl)) (fun _ _ _ h => h) (n_ (by rfl)) ?_ ?_ ?_
            rotate_left
            ·simp only [Act.put, s1_, s2_, s3_, i64_w, i32_w]
             rfl
            refine pu_ 49 (some 79) undef (bs_ 50 6) rfl rfl (any_of HT_.out (by kernel_rfl)) (fun _ _ _ h => h) (n_ (by rfl)) ?_ ?_ ?_
            rotate_left
            ·simp only [Act.put, s1_, s2_, s3_, i64_w, i32_w]
             rfl
            refine pu_ 50 (some 80) undef (bs_ 51 5) rfl rfl (any_of HT_.out (by kernel_rfl)) (fun _ _ _ h => h) (n_ (by rfl)) ?_ ?_ ?_
            rotate_left
            ·simp only [Act.put, s1_, s2_, s3_, i64_w, i32_w]
             rfl
            refine pu_ 51 (some 81) undef (bs_ 52 4) rfl rfl (any_of HT_.out (by kernel_rfl)) (fun _ _ _ h => h) (n_ (by rfl)) ?_ ?_ ?_
            rotate_left
            ·simp only [Act.put, s1_, s2_, s3_, i64_w, i32_w]
             rfl
            refine pu_ 52 (some 82) undef (bs_ 53 3) rfl rfl (any_of HT_.out (by kernel_rfl)) (fun _ _ _ h => h) (n_ (by rfl)) ?_ ?_ ?_
            rotate_left
            ·simp only [Act.put, s1_, s2_, s3_, i64_w, i32_w]
             rfl
            refine pu_ 53 (some 83) undef (bs_ 54 2) rfl rfl (any_of HT_.out (by kernel_rfl)) (fun _ _ _ h => h) (n_ (by rfl)) ?_ ?_ ?_
            rotate_left
            ·simp only [Act.put, s1_, s2_, s3_, i64_w, i32_w]
             rfl
            refine pu_ 54 (some 84) undef (bs_ 55 1) rfl rfl (any_of HT_.out (by kernel_rfl)) (fun _ _ _ h => h) (n_ (by rfl)) ?_ ?_ ?_
            rotate_left
            ·simp only [Act.put, s1_, s2_, s3_, i64_w, i32_w]
             rfl
            refine pu_ 55 (some 85) ?_ (bs_ 56 0) rfl rfl (any_of HT_.out (by kernel_rfl)) (fun _ _ _ h => h) (y_ (by rfl) ?_) ?_ ?_ ?_
            rotate_left
            ·intro w'
             go_simp
             with_reducible rfl
            rotate_left
            ·simp only [Act.put, s1_, s2_, s3_, i64_w, i32_w]
             rfl
            refine done_ (done_of HT_.out (by kernel_rfl)) ?_
            try go_wp2
            go_ret
            exact ⟨by first | rfl | (simp [errW_none, errW_some] <;> rfl) | (simp [*, errW_none, errW_some] <;> rfl), by repeat (first | (with_reducible first | exact HB.out | apply below_alloc | apply pw_below_drewN | apply below_drew1) | exact HB.out)⟩
          ·rw [if_neg c14] at H
           exact absurd H (by simp)
         ·rw [if_neg c13] at H
          have c13b0 : (((rd_T49 l0 x14_2).f1) == (wrap64 (a2 + x14_2))) = false := beq_eq_false_iff_ne.mpr c13
          have c13b1 : (((rd_T49 l0 x14_2).f1) != (wrap64 (a2 + x14_2))) = true := bne_iff_ne.mpr c13
          obtain rfl := Option.some.inj H
          try go_wp2
          have n0_ := Aside0.mk (below_drew1 HB.out)
          clear HB
          have HB := n0_
          clear n0_
          have p197 : 0 ≤ (x14_2 : Int) := of_decide_eq_true (by first | (with_reducible assumption) | assumption)
          have q197 : x14_2 < (l0.length : Int) := of_decide_eq_true (by first | (with_reducible assumption) | assumption)
          obtain ⟨ad197, e197, hx197_0, hx197_1, hx197_2, hx197_3⟩ := at_T49 HR0.out x14_2 p197 q197
          have hw197_3 := hx197_3
          have hw197_2 := hx197_2
          have hw197_1 := hx197_1
          have hw197_0 := hx197_0
          cases e197
          replace hx197_0 := (HB.out.cell (World.block_lt_of_cell? w _ hx197_0)).trans hx197_0
          replace hx197_1 := (HB.out.cell (World.block_lt_of_cell? w _ hx197_1)).trans hx197_1
          replace hx197_2 := (HB.out.cell (World.block_lt_of_cell? w _ hx197_2)).trans hx197_2
          replace hx197_3 := (HB.out.cell (World.block_lt_of_cell? w _ hx197_3)).trans hx197_3
          replace p197 := eq_true p197
          replace q197 := eq_true q197
          refine start_ (n := 56) (S := fun w' => w'.cell? (ad197.add ((x14_2).toNat * 4)) = some (.int .i64 ((rd_T49 l0 x14_2).f0)) ∧ w'.cell? ⟨(ad197.add ((x14_2).toNat * 4)).block, (ad197.add ((x14_2).toNat * 4)).off + 1, none⟩ = some (.int .i64 ((rd_T49 l0 x14_2).f1)) ∧ w'.cell? ⟨(ad197.add ((x14_2).toNat * 4)).block, (ad197.add ((x14_2).toNat * 4)).off + 2, none⟩ = some (.int .i64 ((rd_T49 l0 x14_2).f2)) ∧ w'.cell? ⟨(ad197.add ((x14_2).toNat * 4)).block, (ad197.add ((x14_2).toNat * 4)).off + 3, none⟩ = some (.string ((rd_T49 l0 x14_2).f3))) (ds := []) (bs_ 0 56) (by kernel_rfl) rfl rfl ⟨((HB.out.cell (World.block_lt_of_cell? w _ hw197_0)).trans hw197_0), ((HB.out.cell (World.block_lt_of_cell? w _ hw197_1)).trans hw197_1), ((HB.out.cell (World.block_lt_of_cell? w _ hw197_2)).trans hw197_2), ((HB.out.cell (World.block_lt_of_cell? w _ hw197_3)).trans hw197_3)⟩ (fun hHeld => ?_); refine with_tabW postbaglaw10_whole.tab7 postbaglaw10_whole.bits7 (fun HT_ HW_ => ?_)
          generalize wr.drew = w27 at HB hx197_0 hx197_1 hx197_2 hx197_3 hHeld ⊢
          refine pu_ 0 (some 30) ?_ (bs_ 1 55) rfl rfl (any_of HT_.out (by kernel_rfl)) (fun _ _ _ h => h) (y_ (by rfl) ?_) ?_ ?_ ?_
          rotate_left
          ·intro w'
           go_simp
           with_reducible rfl
          rotate_left
          ·simp only [Act.put, s1_, s2_, s3_, i64_w, i32_w]
           rfl
          refine pu_ 1 (some 31) ?_ (bs_ 2 54) rfl rfl (any_of HT_.out (by kernel_rfl)) (fun _ _ _ h => h) (y_ (by rfl) ?_) ?_ ?_ ?_
          rotate_left
          ·intro w'
           go_simp
           with_reducible rfl
          rotate_left
          ·simp only [Act.put, s1_, s2_, s3_, i64_w, i32_w]
           rfl
          refine pu_ 2 (some 32) ?_ (bs_ 3 53) rfl rfl (any_of HT_.out (by kernel_rfl)) (fun _ _ _ h => h) (y_ (by rfl) ?_) ?_ ?_ ?_
          rotate_left
          ·intro w'
           go_simp
           with_reducible rfl
          rotate_left
          ·simp only [Act.put, s1_, s2_, s3_, i64_w, i32_w]
           rfl
          refine pu_ 3 (some 33) ?_ (bs_ 4 52) rfl rfl (any_of HT_.out (by kernel_rfl)) (fun _ _ _ h => h) (y_ (by rfl) ?_) ?_ ?_ ?_
          rotate_left
          ·intro w'
           go_simp
           with_reducible rfl
          rotate_left
          ·simp only [Act.put, s1_, s2_, s3_, i64_w, i32_w]
           rfl
          refine pu_ 5 (some 35) ?_ #[true, true, true, true, false, true, false, false, false, false, false, false, false, false, false, false, false, false, false, false, false, false, false, false, false, false, false, false, false, false, false, false, false, false, false, false, false, false, false, false, false, false, false, false, false, false, false, false, false, false, false, false, false, false, false, false] rfl rfl (any_of HT_.out (by kernel_rfl)) (fun _ _ _ h => h) (y_ (by rfl) ?_) ?_ ?_ ?_
          rotate_left
          ·intro w'
           go_simp
           with_reducible rfl
          rotate_left
          ·simp only [Act.put, s1_, s2_, s3_, i64_w, i32_w]
           rfl
          refine pu_ 6 (some 36) ?_ #[true, true, true, true, false, true, true, false, false, false, false, false, false, false, false, false, false, false, false, false, false, false, false, false, false, false, false, false, false, false, false, false, false, false, false, false, false, false, false, false, false, false, false, false, false, false, false, false, false, false, false, false, false, false, false, false] rfl rfl (any_of HT_.out (by kernel_rfl)) (fun _ _ _ h => h) (y_ (by rfl) ?_) ?_ ?_ ?_
          rotate_left
          ·intro w'
           go_simp
           with_reducible rfl
          rotate_left
          ·simp only [Act.put, s1_, s2_, s3_, i64_w, i32_w]
           rfl
          refine pu_ 7 (some 37) ?_ #[true, true, true, true, false, true, true, true, false, false, false, false, false, false, false, false, false, false, false, false, false, false, false, false, false, false, false, false, false, false, false, false, false, false, false, false, false, false, false, false, false, false, false, false, false, false, false, false, false, false, false, false, false, false, false, false] rfl rfl (any_of HT_.out (by kernel_rfl)) (fun _ _ _ h => h) (y_ (by rfl) ?_) ?_ ?_ ?_
          rotate_left
          ·intro w'
           go_simp
           with_reducible rfl
          rotate_left
          ·simp only [Act.put, s1_, s2_, s3_, i64_w, i32_w]
           rfl
          refine take_ (i := 4) (N := some 34) (v := ?_) (a' := ?_) (bs_ 8 48) rfl rfl (take_ofW HT_.out HW_.out (by kernel_rfl)) (fun _ _ _ h => h) (Or.inl ⟨by rfl, ?_⟩) hHeld ?_ ?_
          rotate_left
          ·rintro w' ⟨s0, s1, s2, s3⟩
           go_simp
           with_reducible rfl
          rotate_left
          ·simp only [Act.put, s1_, s2_, s3_, i64_w, i32_w]
           rfl
          refine pu_ 8 (some 38) ?_ (bs_ 9 47) rfl rfl (any_of HT_.out (by kernel_rfl)) (fun _ _ _ h => h) (y_ (by rfl) ?_) ?_ ?_ ?_
          rotate_left
          ·intro w'
           go_simp
           with_reducible rfl
          rotate_left
          ·simp only [Act.put, s1_, s2_, s3_, i64_w, i32_w]
           rfl
          refine pu_ 9 (some 39) ?_ (bs_ 10 46) rfl rfl (any_of HT_.out (by kernel_rfl)) (fun _ _ _ h => h) (y_ (by rfl) ?_) ?_ ?_ ?_
          rotate_left
          ·intro w'
           go_simp
           with_reducible rfl
          rotate_left
          ·simp only [Act.put, s1_, s2_, s3_, i64_w, i32_w]
           rfl
          refine pu_ 10 (some 40) undef (bs_ 11 45) rfl rfl (any_of HT_.out (by kernel_rfl)) (fun _ _ _ h => h) (n_ (by rfl)) ?_ ?_ ?_
          rotate_left
          ·simp only [Act.put, s1_, s2_, s3_, i64_w, i32_w]
           rfl
          refine pu_ 11 (some 41) undef (bs_ 12 44) rfl rfl (any_of HT_.out (by kernel_rfl)) (fun _ _ _ h => h) (n_ (by rfl)) ?_ ?_ ?_
          rotate_left
          ·simp only [Act.put, s1_, s2_, s3_, i64_w, i32_w]
           rfl
          refine pu_ 12 (some 42) undef (bs_ 13 43) rfl rfl (any_of HT_.out (by kernel_rfl)) (fun _ _ _ h => h) (n_ (by rfl)) ?_ ?_ ?_
          rotate_left
          ·simp only [Act.put, s1_, s2_, s3_, i64_w, i32_w]
           rfl
          refine pu_ 13 (some 43) undef (bs_ 14 42) rfl rfl (any_of HT_.out (by kernel_rfl)) (fun _ _ _ h => h) (n_ (by rfl)) ?_ ?_ ?_
          rotate_left
          ·simp only [Act.put, s1_, s2_, s3_, i64_w, i32_w]
           rfl
          refine pu_ 14 (some 44) undef (bs_ 15 41) rfl rfl (any_of HT_.out (by kernel_rfl)) (fun _ _ _ h => h) (n_ (by rfl)) ?_ ?_ ?_
          rotate_left
          ·simp only [Act.put, s1_, s2_, s3_, i64_w, i32_w]
           rfl
          refine pu_ 15 (some 45) undef (bs_ 16 40) rfl rfl (any_of HT_.out (by kernel_rfl)) (fun _ _ _ h => h) (n_ (by rfl)) ?_ ?_ ?_
          rotate_left
          ·simp only [Act.put, s1_, s2_, s3_, i64_w, i32_w]
           rfl
          refine pu_ 16 (some 46) undef (bs_ 17 39) rfl rfl (any_of HT_.out (by kernel_rfl)) (fun _ _ _ h => h) (n_ (by rfl)) ?_ ?_ ?_
          rotate_left
          ·simp only [Act.put, s1_, s2_, s3_, i64_w, i32_w]
           rfl
          refine pu_ 17 (some 47) undef (bs_ 18 38) rfl rfl (any_of HT_.out (by kernel_rfl)) (fun _ _ _ h => h) (n_ (by rfl)) ?_ ?_ ?_
          rotate_left
          ·simp only [Act.put, s1_, s2_, s3_, i64_w, i32_w]
           rfl
          refine pu_ 18 (some 48) undef (bs_ 19 37) rfl rfl (any_of HT_.out (by kernel_rfl)) (fun _ _ _ h => h) (n_ (by rfl)) ?_ ?_ ?_
          rotate_left
          ·simp only [Act.put, s1_, s2_, s3_, i64_w, i32_w]
           rfl
          refine pu_ 19 (some 49) undef (bs_ 20 36) rfl rfl (any_of HT_.out (by kernel_rfl)) (fun _ _ _ h => h) (n_ (by rfl)) ?_ ?_ ?_
          rotate_left
          ·simp only [Act.put, s1_, s2_, s3_, i64_w, i32_w]
           rfl
          refine pu_ 20 (some 50) ?_ (bs_ 21 35) rfl rfl (any_of HT_.out (by kernel_rfl)) (fun _ _ _ h => h) (y_ (by rfl) ?_) ?_ ?_ ?_
          rotate_left
          ·intro w'
           go_simp
           with_reducible rfl
          rotate_left
          ·simp only [Act.put, s1_, s2_, s3_, i64_w, i32_w]
           rfl
          refine pu_ 21 (some 51) ?_ (bs_ 22 34) rfl rfl (any_of HT_.out (by kernel_rfl)) (fun _ _ _ h => h) (y_ (by rfl) ?_) ?_ ?_ ?_
          rotate_left
          ·intro w'
           go_simp
           with_reducible rfl
          rotate_left
          ·simp only [Act.put, s1_, s2_, s3_, i64_w, i32_w]
           rfl
          refine pu_ 22 (some 52) undef (bs_ 23 33) rfl rfl (any_of HT_.out (by kernel_rfl)) (fun _ _ _ h => h) (n_ (by rfl)) ?_ ?_ ?_
          rotate_left
          ·simp only [Act.put, s1_, s2_, s3_, i64_w, i32_w]
           rfl
          refine pu_ 23 (some 53) undef (bs_ 24 32) rfl rfl (any_of HT_.out (by kernel_rfl)) (fun _ _ _ h => h) (n_ (by rfl)) ?_ ?_ ?_
          rotate_left
          ·simp only [Act.put, s1_, s2_, s3_, i64_w, i32_w]
           rfl
          refine pu_ 24 (some 54) undef (bs_ 25 31) rfl rfl (any_of HT_.out (by kernel_rfl)) (fun _ _ _ h => h) (n_ (by rfl)) ?_ ?_ ?_
          rotate_left
          ·simp only [Act.put, s1_, s2_, s3_, i64_w, i32_w]
           rfl
          refine pu_ 25 (some 55) undef (bs_ 26 30) rfl rfl (any_of HT_.out (by kernel_rfl)) (fun _ _ _ h => h) (n_ (by rfl)) ?_ ?_ ?_
          rotate_left
          ·simp only [Act.put, s1_, s2_, s3_, i64_w, i32_w]
           rfl
          refine pu_ 26 (some 56) undef (bs_ 27 29) rfl rfl (any_of HT_.out (by kernel_rfl)) (fun _ _ _ h => h) (n_ (by rfl)) ?_ ?_ ?_
          rotate_left
          ·simp only [Act.put, s1_, s2_, s3_, i64_w, i32_w]
           rfl
          refine pu_ 27 (some 57) undef (bs_ 28 28) rfl rfl (any_of HT_.out (by kernel_rfl)) (fun _ _ _ h => h) (n_ (by rfl)) ?_ ?_ ?_
          rotate_left
          ·simp only [Act.put, s1_, s2_, s3_, i64_w, i32_w]
           rfl
          refine pu_ 28 (some 58) undef (bs_ 29 27) rfl rfl (any_of HT_.out (by kernel_rfl)) (fun _ _ _ h => h) (n_ (by rfl)) ?_ ?_ ?_
          rotate_left
          ·simp only [Act.put, s1_, s2_, s3_, i64_w, i32_w]
           rfl
          refine pu_ 29 (some 59) ?_ (bs_ 30 26) rfl rfl (any_of HT_.out (by kernel_rfl)) (fun _ _ _ h => h) (y_ (by rfl) ?_) ?_ ?_ ?_
          rotate_left
          ·intro w'
           go_simp
           with_reducible rfl
          rotate_left
          ·simp only [Act.put, s1_, s2_, s3_, i64_w, i32_w]
           rfl
          refine pu_ 30 (some 60) ?_ (bs_ 31 25) rfl rfl (any_of HT_.out (by kernel_rfl)) (fun _ _ _ h => h) (y_ (by rfl) ?_) ?_ ?_ ?_
          rotate_left
          ·intro w'
           go_simp
           with_reducible rfl
          rotate_left
          ·simp only [Act.put, s1_, s2_, s3_, i64_w, i32_w]
           rfl
          refine pu_ 31 (some 61) undef (bs_ 32 24) rfl rfl (any_of HT_.out (by kernel_rfl)) (fun _ _ _ h => h) (n_ (by rfl)) ?_ ?_ ?_
          rotate_left
          ·simp only [Act.put, s1_, s2_, s3_, i64_w, i32_w]
           rfl
          refine pu_ 32 (some 62) undef (bs_ 33 23) rfl rfl (any_of HT_.out (by kernel_rfl)) (fun _ _ _ h => h) (n_ (by rfl)) ?_ ?_ ?_
          rotate_left
          ·simp only [Act.put, s1_, s2_, s3_, i64_w, i32_w]
           rfl
          refine pu_ 33 (some 63) undef (bs_ 34 22) rfl rfl (any_of HT_.out (by kernel_rfl)) (fun _ _ _ h => h) (n_ (by rfl)) ?_ ?_ ?_
          rotate_left
          ·simp only [Act.put, s1_, s2_, s3_, i64_w, i32_w]
           rfl
          refine pu_ 34 (some 64) undef (bs_ 35 21) rfl rfl (any_of HT_.out (by kernel_rfl)) (fun _ _ _ h => h) (n_ (by rfl)) ?_ ?_ ?_
          rotate_left
          ·simp only [Act.put, s1_, s2_, s3_, i64_w, i32_w]
           rfl
          refine pu_ 35 (some 65) undef (bs_ 36 20) rfl rfl (any_of HT_.out (by kernel_rfl)) (fun _ _ _ h => h) (n_ (by rfl)) ?_ ?_ ?_
          rotate_left
          ·simp only [Act.put, s1_, s2_, s3_, i64_w, i32_w]
           rfl
          refine pu_ 36 (some 66) undef (bs_ 37 19) rfl rfl (any_of HT_.out (by kernel_rfl)) (fun _ _ _ h => h) (n_ (by rfl)) ?_ ?_ ?_
          rotate_left
          ·simp only [Act.put, s1_, s2_, s3_, i64_w, i32_w]
           rfl
          refine pu_ 37 (some 67) undef (bs_ 38 18) rfl rfl (any_of HT_.out (by kernel_rfl)) (fun _ _ _ h => h) (n_ (by rfl)) ?_ ?_ ?_
          rotate_left
          ·simp only [Act.put, s1_, s2_, s3_, i64_w, i32_w]
           rfl
          refine pu_ 38 (some 68) undef (bs_ 39 17) rfl rfl (any_of HT_.out (by kernel_rfl)) (fun _ _ _ h => h) (n_ (by rfl)) ?_ ?_ ?_
          rotate_left
          ·simp only [Act.put, s1_, s2_, s3_, i64_w, i32_w]
           rfl
          refine pu_ 39 (some 69) undef (bs_ 40 16) rfl rfl (any_of HT_.out (by kernel_rfl)) (fun _ _ _ h => h) (n_ (by rfl)) ?_ ?_ ?_
          rotate_left
          ·simp only [Act.put, s1_, s2_, s3_, i64_w, i32_w]
           rfl
          refine pu_ 40 (some 70) ?_ (bs_ 41 15) rfl rfl (any_of HT_.out (by kernel_rfl)) (fun _ _ _ h => h) (y_ (by rfl) ?_) ?_ ?_ ?_
          rotate_left
          ·intro w'
           go_simp
           with_reducible rfl
          rotate_left
          ·simp only [Act.put, s1_, s2_, s3_, i64_w, i32_w]
           rfl
          refine pu_ 41 (some 71) ?_ (bs_ 42 14) rfl rfl (any_of HT_.out (by kernel_rfl)) (fun _ _ _ h => h) (y_ (by rfl) ?_) ?_ ?_ ?_
          rotate_left
          ·intro w'
           go_simp
           with_reducible rfl
          rotate_left
          ·simp only [Act.put, s1_, s2_, s3_, i64_w, i32_w]
           rfl
          refine pu_ 42 (some 72) undef (bs_ 43 13) rfl rfl (any_of HT_.out (by kernel_rfl)) (fun _ _ _ h => h) (n_ (by rfl)) ?_ ?_ ?_
          rotate_left
          ·simp only [Act.put, s1_, s2_, s3_, i64_w, i32_w]
           rfl
          refine pu_ 43 (some 73) undef (bs_ 44 12) rfl rfl (any_of HT_.out (by kernel_rfl)) (fun _ _ _ h => h) (n_ (by rfl)) ?_ ?_ ?_
          rotate_left
          ·simp only [Act.put, s1_, s2_, s3_, i64_w, i32_w]
           rfl
          refine pu_ 44 (some 74) undef (bs_ 45 11) rfl rfl (any_of HT_.out (by kernel_rfl)) (fun _ _ _ h => h) (n_ (by rfl)) ?_ ?_ ?_
          rotate_left
          ·simp only [Act.put, s1_, s2_, s3_, i64_w, i32_w]
           rfl
          refine pu_ 45 (some 75) undef (bs_ 46 10) rfl rfl (any_of HT_.out (by kernel_rfl)) (fun _ _ _ h => h) (n_ (by rfl)) ?_ ?_ ?_
          rotate_left
          ·simp only [Act.put, s1_, s2_, s3_, i64_w, i32_w]
           rfl
          refine pu_ 46 (some 76) undef (bs_ 47 9) rfl rfl (any_of HT_.out (by kernel_rfl)) (fun _ _ _ h => h) (n_ (by rfl)) ?_ ?_ ?_
          rotate_left
          ·simp only [Act.put, s1_, s2_, s3_, i64_w, i32_w]
           rfl
          refine pu_ 47 (some 77) undef (bs_ 48 8) rfl rfl (any_of HT_.out (by kernel_rfl)) (fun _ _ _ h => h) (n_ (by rfl)) ?_ ?_ ?_
          rotate_left
          ·simp only [Act.put, s1_, s2_, s3_, i64_w, i32_w]
           rfl
          refine pu_ 48 (some 78) undef (bs_ 49 7) rfl rfl (any_of HT_.out (by kernel_rfl)) (fun _ _ _ h => h) (n_ (by rfl)) ?_ ?_ ?_
          rotate_left
          ·simp only [Act.put, s1_, s2_, s3_, i64_w, i32_w]
           rfl
          refine pu_ 49 (some 79) undef (bs_ 50 6) rfl rfl (any_of HT_.out (by kernel_rfl)) (fun _ _ _ h => h) (n_ (by rfl)) ?_ ?_ ?_
          rotate_left
          ·simp only [Act.put, s1_, s2_, s3_, i64_w, i32_w]
           rfl
          refine pu_ 50 (some 80) undef (bs_ 51 5) rfl rfl (any_of HT_.out (by kernel_rfl)) (fun _ _ _ h => h) (n_ (by rfl)) ?_ ?_ ?_
          rotate_left
          ·simp only [Act.put, s1_, s2_, s3_, i64_w, i32_w]
           rfl
          refine pu_ 51 (some 81) undef (bs_ 52 4) rfl rfl (any_of HT_.out (by kernel_rfl)) (fun _ _ _ h => h) (n_ (by rfl)) ?_ ?_ ?_
          rotate_left
          ·simp only [Act.put, s1_, s2_, s3_, i64_w, i32_w]
           rfl
          refine pu_ 52 (some 82) undef (bs_ 53 3) rfl rfl (any_of HT_.out (by kernel_rfl)) (fun _ _ _ h => h) (n_ (by rfl)) ?_ ?_ ?_
          rotate_left
          ·simp only [Act.put, s1_, s2_, s3_, i64_w, i32_w]
           rfl
          refine pu_ 53 (some 83) undef (bs_ 54 2) rfl rfl (any_of HT_.out (by kernel_rfl)) (fun _ _ _ h => h) (n_ (by rfl)) ?_ ?_ ?_
          rotate_left
          ·simp only [Act.put, s1_, s2_, s3_, i64_w, i32_w]
           rfl
          refine pu_ 54 (some 84) undef (bs_ 55 1) rfl rfl (any_of HT_.out (by kernel_rfl)) (fun _ _ _ h => h) (n_ (by rfl)) ?_ ?_ ?_
          rotate_left
          ·simp only [Act.put, s1_, s2_, s3_, i64_w, i32_w]
           rfl
          refine pu_ 55 (some 85) ?_ (bs_ 56 0) rfl rfl (any_of HT_.out (by kernel_rfl)) (fun _ _ _ h => h) (y_ (by rfl) ?_) ?_ ?_ ?_
          rotate_left
          ·intro w'
           go_simp
           with_reducible rfl
          rotate_left
          ·simp only [Act.put, s1_, s2_, s3_, i64_w, i32_w]
           rfl
          refine done_ (done_of HT_.out (by kernel_rfl)) ?_
          try go_wp2
          go_ret
          exact ⟨by first | rfl | (simp [errW_none, errW_some] <;> rfl) | (simp [*, errW_none, errW_some] <;> rfl), by repeat (first | (with_reducible first | exact HB.out | apply below_alloc | apply pw_below_drewN | apply below_drew1) | exact HB.out)⟩
        ·rw [if_neg c12] at H
         exact absurd H (by simp)
       ·rw [if_neg c11] at H
        exact absurd H (by simp)
      ·rw [if_neg c10] at H
       have c10b0 : decide (x14_2 < a5) = false := decide_eq_false c10
       clear c10
       obtain rfl := Option.some.inj H
       go_wp2
       go_ret
       exact ⟨by first | rfl | (simp [errW_none, errW_some] <;> rfl) | (simp [*, errW_none, errW_some] <;> rfl), by repeat (first | (with_reducible first | exact HB.out | apply below_alloc | apply pw_below_drewN | apply below_drew1) | exact HB.out)⟩

end Go.Proofs.Ytcndhgpaoihblaa.Fr
