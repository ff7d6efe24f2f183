import Derived.Test.YtidcchopmbodkaaDoorQm1
import Derived.Test.YtidcchopmbodkaaDoorQm4
import Derived.Test.YtidcchopmbodkaaDoorQm2
import Derived.Test.YtidcchopmbodkaaDoorRows
import Derived.ProofKit
import Derived.LaidMore
import Derived.OpenShut
import Derived.Stop.Joined
import Derived.Lib.LaidTab
section
namespace Go.Proofs.YtidcchopmbodkaaDoor.Sp
open Go.RowKit Go.Proofs.YtidcchopmbodkaaDoorW.PrintWords Go.Proofs.YtidcchopmbodkaaDoorW.PrintLast Go.Proofs.YtidcchopmbodkaaDoorW.PrintMore
attribute [local go_sem] max2_int min2_int max_two min_two max_three min_three max_four min_four   -- for this text's walks alone
set_option linter.unusedVariables false
set_option linter.unusedSimpArgs false
mutual
def postbaglaw4_SpanMeans.j1 : Nat → List (List (S28)) → List Int → List Int → Int → Option (Bool)
 | 0, _, _, _, _ => none
 | k + 1, x0, x1, x2, x7 => if x7 > 60 then (postbaglaw4_SpanMeans.j2 k x0 x1 x2 true) else (postbaglaw4_SpanMeans.j2 k x0 x1 x2 (decide ((x2.length : Int) > 6)))
def postbaglaw4_SpanMeans.j2 : Nat → List (List (S28)) → List Int → List Int → Bool → Option (Bool)
 | 0, _, _, _, _ => none
 | k + 1, x0, x1, x2, x49 => if x49 = true then (some true) else ((span_Join.f k x0).bind fun t500 => ((some (([] : List Int) : List Int)).bind fun y503 => (if y503.length + x1.length < 17592186044416 then (postbaglaw4_SpanMeans.l1 k x0 x2 t500 (y503 ++ x1) 0) else (none))))
def postbaglaw4_SpanMeans.l1 : Nat → List (List (S28)) → List Int → List (S28) → List Int → Int → Option (Bool)
 | 0, _, _, _, _, _ => none
 | k + 1, x0, x2, x9, x10, x11 => if x11 < (x0.length : Int) then (postbaglaw4_SpanMeans.l2 k x0 x2 x9 x10 x11 0) else ((some (([] : List Int) : List Int)).bind fun y519 => (if y519.length + x2.length < 17592186044416 then (postbaglaw4_SpanMeans.l3 k x0 x9 x10 (y519 ++ x2) 0) else (none)))
def postbaglaw4_SpanMeans.l2 : Nat → List (List (S28)) → List Int → List (S28) → List Int → Int → Int → Option (Bool)
 | 0, _, _, _, _, _, _ => none
 | k + 1, x0, x2, x9, x10, x11, x12 => if 0 ≤ x11 then (if x11 < (x0.length : Int) then (if x12 < ((rd_L2 x0 x11).length : Int) then (if 0 ≤ x12 then (if ((rd_T28 (rd_L2 x0 x11) x12).f0) ≥ 0 then (if ((rd_T28 (rd_L2 x0 x11) x12).f1) ≥ 0 then (if ((rd_T28 (rd_L2 x0 x11) x12).f0) ≤ 4294967295 then (if ((rd_T28 (rd_L2 x0 x11) x12).f1) ≤ 4294967295 then ((some (([wrap64 (((rd_T28 (rd_L2 x0 x11) x12).f0) - 1), (rd_T28 (rd_L2 x0 x11) x12).f0, wrap64 (((rd_T28 (rd_L2 x0 x11) x12).f0) + 1), wrap64 (((rd_T28 (rd_L2 x0 x11) x12).f1) - 1), (rd_T28 (rd_L2 x0 x11) x12).f1, wrap64 (((rd_T28 (rd_L2 x0 x11) x12).f1) + 1)] : List Int) : List Int)).bind fun y513 => (if x10.length + y513.length < 17592186044416 then (postbaglaw4_SpanMeans.l2 k x0 x2 x9 (x10 ++ y513) x11 (wrap64 (x12 + 1))) else (none))) else (postbaglaw4_SpanMeans.l2 k x0 x2 x9 x10 x11 (wrap64 (x12 + 1)))) else (postbaglaw4_SpanMeans.l2 k x0 x2 x9 x10 x11 (wrap64 (x12 + 1)))) else (postbaglaw4_SpanMeans.l2 k x0 x2 x9 x10 x11 (wrap64 (x12 + 1)))) else (postbaglaw4_SpanMeans.l2 k x0 x2 x9 x10 x11 (wrap64 (x12 + 1)))) else (none)) else (postbaglaw4_SpanMeans.l1 k x0 x2 x9 x10 (wrap64 (x11 + 1)))) else (none)) else (none)
def postbaglaw4_SpanMeans.j6 : Nat → List (List (S28)) → List (S28) → List Int → List Int → Option (Bool)
 | 0, _, _, _, _ => none
 | k + 1, x0, x9, x10, x14 => postbaglaw4_SpanMeans.l4 k x0 x9 x10 x14 0
def postbaglaw4_SpanMeans.l4 : Nat → List (List (S28)) → List (S28) → List Int → List Int → Int → Option (Bool)
 | 0, _, _, _, _, _ => none
 | k + 1, x0, x9, x10, x14, x16 => if x16 < (x14.length : Int) then (postbaglaw4_SpanMeans.l5 k x0 x9 x10 x14 x16 0) else ((postbaglaw4_known.f k).bind fun t529 => (some t529))
def postbaglaw4_SpanMeans.l5 : Nat → List (List (S28)) → List (S28) → List Int → List Int → Int → Int → Option (Bool)
 | 0, _, _, _, _, _, _ => none
 | k + 1, x0, x9, x10, x14, x16, x17 => if x17 ≤ (x10.length : Int) then (if 0 ≤ x16 then (if x16 < (x14.length : Int) then (if x17 < (x10.length : Int) then (if 0 ≤ x17 then (postbaglaw4_SpanMeans.j9 k x0 x9 x10 x14 x16 x17 (rd x10 x17)) else (none)) else (postbaglaw4_SpanMeans.j9 k x0 x9 x10 x14 x16 x17 (rd x14 x16))) else (none)) else (none)) else (postbaglaw4_SpanMeans.l4 k x0 x9 x10 x14 (wrap64 (x16 + 1)))
def postbaglaw4_SpanMeans.j9 : Nat → List (List (S28)) → List (S28) → List Int → List Int → Int → Int → Int → Option (Bool)
 | 0, _, _, _, _, _, _, _ => none
 | k + 1, x0, x9, x10, x14, x16, x17, x18 => postbaglaw4_SpanMeans.l6 k x0 x9 x10 x14 x16 x17 x18 false 0
def postbaglaw4_SpanMeans.l6 : Nat → List (List (S28)) → List (S28) → List Int → List Int → Int → Int → Int → Bool → Int → Option (Bool)
 | 0, _, _, _, _, _, _, _, _, _ => none
 | k + 1, x0, x9, x10, x14, x16, x17, x18, x19, x20 => if x20 < (x0.length : Int) then (if x19 = true then (postbaglaw4_SpanMeans.l6 k x0 x9 x10 x14 x16 x17 x18 true (wrap64 (x20 + 1))) else (if 0 ≤ x20 then (if 0 ≤ x16 then (if x16 < (x14.length : Int) then ((span_Has.f (rd_L2 x0 x20) x18 (rd x14 x16)).bind fun t534 => (postbaglaw4_SpanMeans.l6 k x0 x9 x10 x14 x16 x17 x18 t534 (wrap64 (x20 + 1)))) else (none)) else (none)) else (none))) else (if 0 ≤ x16 then (if x16 < (x14.length : Int) then ((span_Has.f x9 x18 (rd x14 x16)).bind fun t536 => (if (t536 != x19) = true then (some false) else (postbaglaw4_SpanMeans.l5 k x0 x9 x10 x14 x16 (wrap64 (x17 + 1))))) else (none)) else (none))
def postbaglaw4_SpanMeans.l3 : Nat → List (List (S28)) → List (S28) → List Int → List Int → Int → Option (Bool)
 | 0, _, _, _, _, _ => none
 | k + 1, x0, x9, x10, x14, x15 => if x15 < (x10.length : Int) then (if (x14.length : Int) < 16 then (if 0 ≤ x15 then (if x14.length < 17592186044416 then (postbaglaw4_SpanMeans.l3 k x0 x9 x10 (x14 ++ [rd x10 x15]) (wrap64 (x15 + 1))) else (none)) else (none)) else (postbaglaw4_SpanMeans.j6 k x0 x9 x10 x14)) else (postbaglaw4_SpanMeans.j6 k x0 x9 x10 x14)
def postbaglaw4_SpanMeans.l0 : Nat → List (List (S28)) → List Int → List Int → Int → Int → Option (Bool)
 | 0, _, _, _, _, _ => none
 | k + 1, x0, x1, x2, x7, x8 => if x8 < (x0.length : Int) then (if x7 ≤ 60 then (if 0 ≤ x8 then (postbaglaw4_SpanMeans.l0 k x0 x1 x2 (wrap64 (x7 + ((rd_L2 x0 x8).length : Int))) (wrap64 (x8 + 1))) else (none)) else (postbaglaw4_SpanMeans.j1 k x0 x1 x2 x7)) else (postbaglaw4_SpanMeans.j1 k x0 x1 x2 x7)
end
def postbaglaw4_SpanMeans.f (k : Nat) (l0 : List (List (S28))) (l1 : List Int) (l2 : List Int) : Option (Bool) := postbaglaw4_SpanMeans.l0 k l0 l1 l2 (wrap64 ((l0.length : Int) + (l1.length : Int))) 0
def postbaglaw4_SpanMeans.T37 : Bool × List (List Nat × List Nat) := (true, [([], []), ([0], [0]), ([1], [1]), ([1], [1]), ([2, 3, 1], [1, 2, 3]), ([4, 1], [1, 4]), ([1], [1]), ([1], [1]), ([1], [1]), ([7, 8, 1], [1, 7, 8]), ([9, 1], [1, 9]), ([5, 6, 10, 1, 1], [1, 5, 6, 10]), ([1, 11], [1, 11]), ([12, 11, 0, 1, 2, 3, 4, 5, 6, 7, 8, 9, 10, 11, 12], [0, 12])])
def postbaglaw4_SpanMeans.B37 : List Nat := [0, 1, 3, 3, 15, 31, 3, 3, 3, 387, 899, 2047, 4095, 8191]
theorem postbaglaw4_SpanMeans.tab37 : rtab .any (opsOf Tryd.f13 37) = postbaglaw4_SpanMeans.T37 := by kernel_rfl
theorem postbaglaw4_SpanMeans.bits37 : waitsOk postbaglaw4_SpanMeans.T37.2 postbaglaw4_SpanMeans.B37 = true := by kernel_rfl
set_option maxHeartbeats 8000000 in
set_option maxRecDepth 100000 in
theorem postbaglaw4_SpanMeans.calls (k : Nat) (A0 : Option Addr) (c0 : Nat) (l0 : List (List (S28))) (A1 : Option Addr) (c1 : Nat) (l1 : List Int) (A2 : Option Addr) (c2 : Nat) (l2 : List Int) (r : Bool) (w : World) (hr0 : Kd.C (Kd.slice 28 k28) w A0 l0.length l0) (hc0 : l0.length ≤ c0) (hr1 : Kd.C (Kd.int .i64) w A1 l1.length l1) (hc1 : l1.length ≤ c1) (hr2 : Kd.C (Kd.int .i64) w A2 l2.length l2) (hc2 : l2.length ≤ c2) (h : postbaglaw4_SpanMeans.f k l0 l1 l2 = some r) (hL_ : Laid w) :
  Calls Tryd.prog 13 #[.slice A0 l0.length c0, .slice A1 l1.length c1, .slice A2 l2.length c2] w fun e w' => e = .returned (.bool r) ∧ Below w.heap.size w w' := by
 have HL_ := Aside0.mk hL_
 clear hL_
 have hu28 := Tryd.underlying28
 have HR0 := Aside0.mk hr0
 have HC0 := Aside0.mk hc0
 clear hr0 hc0
 have HR1 := Aside0.mk hr1
 have HC1 := Aside0.mk hc1
 clear hr1 hc1
 have HR2 := Aside0.mk hr2
 have HC2 := Aside0.mk hc2
 clear hr2 hc2
 have HB := Aside0.mk (Below.refl w.heap.size w)
 have H : (postbaglaw4_SpanMeans.l0 k l0 l1 l2 (wrap64 ((l0.length : Int) + (l1.length : Int))) 0) = some r := h
 clear h
 have HC4 := Aside0.mk H
 clear H
 go_enter Tryd.func13, Tryd.ntmps13
 go_upto_block 0 with (fail)
 go_cut [7] (fun v7 wc => ∃ (kq : Nat) (x7_3 : Int), v7 = .int .i64 x7_3 ∧ Aside0 (postbaglaw4_SpanMeans.j1 kq l0 l1 l2 x7_3 = some r) ∧ Aside0 (kq ≤ k) ∧ Aside0 (Below w.heap.size w wc))
 case first =>
  have H := HC4.out
  clear HC4
  have H' := Aside0.mk H
  clear H
  go_wp2
  go_loopg [7, 8] k (fun kq v7 v8 w' => ∃ (x7_1 : Int) (x8_1 : Int), v7 = .int .i64 x7_1 ∧ v8 = .int .i64 x8_1 ∧ Aside0 (postbaglaw4_SpanMeans.l0 kq l0 l1 l2 x7_1 x8_1 = some r) ∧ Aside0 (kq ≤ k) ∧ Aside0 (Below w.heap.size w w'))
  case atStart => exact ⟨(wrap64 ((l0.length : Int) + (l1.length : Int))), (0), (by first | rfl | (simp; done) | (simp [*]; done)), (by first | rfl | (simp; done) | (simp [*]; done)), H', ⟨Nat.le_refl _⟩, ⟨by repeat (first | (with_reducible first | exact HB.out | apply below_alloc | apply pw_below_drewN | apply below_drew1) | exact HB.out)⟩⟩
  case round =>
   clear H'
   try clear c1
   try clear c2
   try clear p2
   obtain ⟨x7_1, x8_1, rfl, rfl, HA, HK1, HB⟩ := hrel
   cases gk with
   | zero => exact absurd HA.out (by simp [postbaglaw4_SpanMeans.l0])
   | succ k1 =>
    have H := HA.out
    clear HA
    simp only [postbaglaw4_SpanMeans.l0] at H
    by_cases c5 : x8_1 < (l0.length : Int)
    ·rw [if_pos c5] at H
     have c5b0 : decide (x8_1 < (l0.length : Int)) = true := decide_eq_true c5
     clear c5
     (first | rw [c5b0] | (simp only [i64_w, i32_w]; rw [c5b0]) | skip)
     by_cases c6 : x7_1 ≤ 60
     ·rw [if_pos c6] at H
      have c6b0 : decide (x7_1 ≤ 60) = true := decide_eq_true c6
      clear c6
      by_cases c7 : 0 ≤ x8_1
      ·rw [if_pos c7] at H
       have c7b0 : decide (0 ≤ x8_1) = true := decide_eq_true c7
       clear c7
       have H' := Aside0.mk H
       clear H
       have p499 : 0 ≤ (x8_1 : Int) := of_decide_eq_true (by first | (with_reducible assumption) | assumption)
       have q499 : x8_1 < (l0.length : Int) := of_decide_eq_true (by first | (with_reducible assumption) | assumption)
       obtain ⟨ad499, A499_0, c499_0, e499, hx499_0, hl499_0, hi499_0⟩ := at_L2 HR0.out x8_1 p499 q499
       cases e499
       replace hx499_0 := (HB.out.cell (World.block_lt_of_cell? w _ hx499_0)).trans hx499_0
       have HR499_0 := Aside0.mk hi499_0
       have HC499_0 := Aside0.mk hl499_0
       clear hi499_0 hl499_0
       replace p499 := eq_true p499
       replace q499 := eq_true q499
       go_wp2
       go_roundg k1
       case measure => have := HK1.out; omega
       case rel => exact ⟨(wrap64 (x7_1 + ((rd_L2 l0 x8_1).length : Int))), (wrap64 (x8_1 + 1)), (by first | rfl | (simp; done) | (simp [*]; done)), (by first | rfl | (simp; done) | (simp [*]; done)), H', ⟨by have := HK1.out; omega⟩, ⟨by repeat (first | (with_reducible first | exact HB.out | apply below_alloc | apply pw_below_drewN | apply below_drew1) | exact HB.out)⟩⟩
      ·rw [if_neg c7] at H
       exact absurd H (by simp)
     ·rw [if_neg c6] at H
      have c6b0 : decide (x7_1 ≤ 60) = false := decide_eq_false c6
      clear c6
      have H' := Aside0.mk H
      clear H
      go_wp2
      go_meet
      case rel => exact ⟨_, (x7_1), (by first | rfl | (simp; done) | (simp [*]; done)), H', ⟨by have := HK1.out; first | omega | exact Nat.le_refl _⟩, ⟨by repeat (first | (with_reducible first | exact HB.out | apply below_alloc | apply pw_below_drewN | apply below_drew1) | exact HB.out)⟩⟩
    ·rw [if_neg c5] at H
     have c5b0 : decide (x8_1 < (l0.length : Int)) = false := decide_eq_false c5
     clear c5
     (first | rw [c5b0] | (simp only [i64_w, i32_w]; rw [c5b0]) | skip)
     have H' := Aside0.mk H
     clear H
     go_wp2
     go_meet
     case rel => exact ⟨_, (x7_1), (by first | rfl | (simp; done) | (simp [*]; done)), H', ⟨by have := HK1.out; first | omega | exact Nat.le_refl _⟩, ⟨by repeat (first | (with_reducible first | exact HB.out | apply below_alloc | apply pw_below_drewN | apply below_drew1) | exact HB.out)⟩⟩
 case rest =>
  clear HC4
  try clear c1
  try clear c2
  try clear p2
  try clear c4
  try clear p4
  try clear q4
  try clear hx4
  try clear c5
  try clear c5b0
  try clear c6
  try clear c6b0
  try clear p6
  try clear c7
  try clear c7b0
  try clear hx499_0
  try clear p2
  try clear p499
  try clear q499
  obtain ⟨kq, x7_3, rfl, HA, HJ3, HB⟩ := hcut
  cases kq with
  | zero => exact absurd HA.out (by simp [postbaglaw4_SpanMeans.j1])
  | succ kj3 =>
   have H := HA.out
   clear HA
   simp only [postbaglaw4_SpanMeans.j1] at H
   have HC8 := Aside0.mk H
   clear H
   go_upto_region 6 with (fail)
   go_cut [49] (fun v49 wc => ∃ (kq : Nat) (x49_7 : Bool), v49 = .bool x49_7 ∧ Aside0 (postbaglaw4_SpanMeans.j2 kq l0 l1 l2 x49_7 = some r) ∧ Aside0 (kq ≤ kj3) ∧ Aside0 (Below w.heap.size w wc))
   case first =>
    have H := HC8.out
    clear HC8
    by_cases c9 : x7_3 > 60
    ·rw [if_pos c9] at H
     have c9b0 : decide (60 < x7_3) = true := decide_eq_true c9
     clear c9
     (first | rw [c9b0] | (simp only [i64_w, i32_w]; rw [c9b0]) | skip)
     have H' := Aside0.mk H
     clear H
     go_wp2
     go_meet
     case rel => exact ⟨_, (true), (by first | rfl | (simp; done) | (simp [*]; done)), H', ⟨by have := HJ3.out; first | omega | exact Nat.le_refl _⟩, ⟨by repeat (first | (with_reducible first | exact HB.out | apply below_alloc | apply pw_below_drewN | apply below_drew1) | exact HB.out)⟩⟩
    ·rw [if_neg c9] at H
     have c9b0 : decide (60 < x7_3) = false := decide_eq_false c9
     clear c9
     (first | rw [c9b0] | (simp only [i64_w, i32_w]; rw [c9b0]) | skip)
     have H' := Aside0.mk H
     clear H
     go_wp2
     go_meet
     case rel => exact ⟨_, (decide ((l2.length : Int) > 6)), (by first | rfl | (simp; done) | (simp [*]; done)), H', ⟨by have := HJ3.out; first | omega | exact Nat.le_refl _⟩, ⟨by repeat (first | (with_reducible first | exact HB.out | apply below_alloc | apply pw_below_drewN | apply below_drew1) | exact HB.out)⟩⟩
   case rest =>
    clear HC8
    try clear c1
    try clear c2
    try clear p2
    try clear c4
    try clear p4
    try clear q4
    try clear hx4
    try clear c5
    try clear c5b0
    try clear c6
    try clear c6b0
    try clear p6
    try clear c7
    try clear c7b0
    try clear c9
    try clear c9b0
    try clear hx499_0
    try clear p2
    try clear p4
    try clear p499
    try clear p6
    try clear q4
    try clear q499
    obtain ⟨kq, x49_7, rfl, HA, HJ7, HB⟩ := hcut
    cases kq with
    | zero => exact absurd HA.out (by simp [postbaglaw4_SpanMeans.j2])
    | succ kj7 =>
     have H := HA.out
     clear HA
     simp only [postbaglaw4_SpanMeans.j2] at H
     by_cases c10 : x49_7 = true
     ·subst c10
      have H1 : (some true) = some r := by rw [if_pos rfl] at H; exact H
      clear H
      have H := H1
      clear H1
      obtain rfl := Option.some.inj H
      go_wp2
      go_ret
      exact ⟨by first | rfl | (simp [errW_none, errW_some] <;> rfl) | (simp [*, errW_none, errW_some] <;> rfl), by repeat (first | (with_reducible first | exact HB.out | apply below_alloc | apply pw_below_drewN | apply below_drew1) | exact HB.out)⟩
     ·replace c10 := Bool.eq_false_iff.mpr c10
      subst c10
      have H1 : ((span_Join.f kj7 l0).bind fun t500 => ((some (([] : List Int) : List Int)).bind fun y503 => (if y503.length + l1.length < 17592186044416 then (postbaglaw4_SpanMeans.l1 kj7 l0 l2 t500 (y503 ++ l1) 0) else (none)))) = some r := by rw [if_neg (show ¬ (false = true) by decide)] at H; exact H
      clear H
      have H := H1
      clear H1
      replace H := Option.bind_eq_some_iff.mp H
      obtain ⟨t500, A110, H⟩ := H
      replace H : ((some (([] : List Int) : List Int)).bind fun y503 => (if y503.length + l1.length < 17592186044416 then (postbaglaw4_SpanMeans.l1 kj7 l0 l2 t500 (y503 ++ l1) 0) else (none))) = some r := H
      have A11 := Aside0.mk A110
      clear A110
      obtain ⟨y503, hy503⟩ : ∃ y_ : List Int, y_ = (([] : List Int)) := ⟨_, rfl⟩
      replace H : (if y503.length + l1.length < 17592186044416 then (postbaglaw4_SpanMeans.l1 kj7 l0 l2 t500 (y503 ++ l1) 0) else (none)) = some r := by first | (rw [hy503]; with_reducible exact H) | (have H2_ := (Option.bind_some _ _).symm.trans H; rw [hy503]; with_reducible exact H2_) | (have H2_ := (Option.bind_some _ _).symm.trans H; with_reducible exact H2_) | with_reducible exact H | (rw [hy503]; exact H) | exact H
      have Ny503 := Aside0.mk hy503
      clear hy503
      by_cases c12 : y503.length + l1.length < 17592186044416
      ·rw [if_pos c12] at H
       have LMc12 := Aside0.mk c12
       clear c12
       obtain ⟨y506, hy506⟩ : ∃ y_ : List Int, y_ = (y503 ++ l1) := ⟨_, rfl⟩
       replace H : (postbaglaw4_SpanMeans.l1 kj7 l0 l2 t500 y506 0) = some r := by first | (rw [hy506]; with_reducible exact H) | (have H2_ := (Option.bind_some _ _).symm.trans H; rw [hy506]; with_reducible exact H2_) | (have H2_ := (Option.bind_some _ _).symm.trans H; with_reducible exact H2_) | with_reducible exact H | (rw [hy506]; exact H) | exact H
       have Ny506 := Aside0.mk hy506
       clear hy506
       have H' := Aside0.mk H
       clear H
       go_wp2_with (first | ((with_reducible refine gate_callee (f := 25) rfl ?_); refine goesL_ (some 51) rfl rfl Tryd.func25 (by kernel_rfl) rfl #[.slice A0 l0.length c0] rfl (by (try simp only [List.map_toArray, List.map_cons, List.map_nil]); first | done | rfl | (simp only [List.length_drop, List.length_take]; rfl)) ?_; (with_reducible refine (span_Join.calls kj7 _ _ l0 t500 _ ?side1 ?side2 A11.out).mono ?_); (case side1 => repeat (first | exact (Kd.C_below HR0.out HB.out) | (with_reducible refine Kd.C_alloc ?_ _) | (with_reducible refine Kd.C_drewN ?_ _) | (with_reducible refine Kd.C_drew ?_))); (case side2 => exact HC0.out); rintro e w13 ⟨v501, rfl, ho0, hb⟩; refine ⟨_, rfl, ?_⟩; have n0_ := Aside0.mk (Kd.R_lower ho0 (below_size (by repeat (first | (with_reducible first | exact HB.out | apply below_alloc | apply pw_below_drewN | apply below_drew1) | exact HB.out)))); have n1_ := Aside0.mk (below_step (by repeat (first | (with_reducible first | exact HB.out | apply below_alloc | apply pw_below_drewN | apply below_drew1) | exact HB.out)) hb); clear HB; have HO502 := n0_; have HB := n1_; clear n0_ n1_; (try clear hb); (try clear hb2); (try clear hk); (try clear hi); (try clear ho0)) | ((with_reducible refine gate_dst (N := 52) rfl ?_); (try (refine gate_guard (by rfl) ?_; dsimp only)); refine Kd.R_lit (Kd.int .i64) _ 3 ?hg (N := 52) ?hd (xs := ([] : List Int)) (inner := []) (ok := fun _ => True) (okp := fun _ => True) ?hr ?hp (fun _ hk => hk) trivial (Below.refl _ _) (Nat.le_refl _) (by simp) ?_; (case hd => rfl); (case hg => rfl); (case hr => first | (go_simp; done) | (go_simp; rfl)); (case hp => exact (Reps.none _ _)); intro v504 w14 ho15 hb hg_ hnew_; clear hg_ hnew_; (first | rw [← Ny503.out] at ho15 | (simp only [Int.reduceToNat] at ho15; rw [← Ny503.out] at ho15)); have n0_ := Aside0.mk (Kd.R_below (by (with_reducible repeat (first | apply Kd.R_alloc | apply Kd.R_drewN | apply Kd.R_drew)); exact HO502.out) hb); have n1_ := Aside0.mk (Kd.R_lower ho15 (below_size (by repeat (first | (with_reducible first | exact HB.out | apply below_alloc | apply pw_below_drewN | apply below_drew1) | exact HB.out)))); have n2_ := Aside0.mk (below_step (by repeat (first | (with_reducible first | exact HB.out | apply below_alloc | apply pw_below_drewN | apply below_drew1) | exact HB.out)) hb); clear HO502; clear HB; have HO502 := n0_; have HO505 := n1_; have HB := n2_; clear n0_ n1_ n2_; clear hb ho15) | ((with_reducible refine gate_builtin (b := .append) (xs := #[.tmp 52, .tmp 53]) rfl ?_); (try (refine gate_guard (by rfl) ?_; dsimp only)); at_builtin; refine Kd.R_append_rows (Kd.int .i64) (w0 := w) w.heap.size rfl (.tmp 52) (.tmp 53) 22 3 (.int .i64 0) 8 rfl Tryd.underlying22 info3 rfl (by decide) (by omega) v504 y503 l1 _ _ _ (fun _ => True) (fun _ => False) rfl rfl ?aO ?aR (fun _ _ h => h) (fun _ h => h.elim) ?aF ?aB ?aS ?aL ?_; (case aR => repeat (first | exact (Kd.C_below HR1.out HB.out) | (with_reducible refine Kd.C_alloc ?_ _) | (with_reducible refine Kd.C_drewN ?_ _) | (with_reducible refine Kd.C_drew ?_))); (case aB => exact (by repeat (first | (with_reducible first | exact HB.out | apply below_alloc | apply pw_below_drewN | apply below_drew1) | exact HB.out))); (case aF => exact (fun _ _ => trivial)); (case aO => exact (by (with_reducible repeat (first | apply Kd.R_alloc | apply Kd.R_drewN | apply Kd.R_drew)); exact HO505.out)); (case aS => exact (below_size (by repeat (first | (with_reducible first | exact HB.out | apply below_alloc | apply pw_below_drewN | apply below_drew1) | exact HB.out)))); (case aL => have := LMc12.out; omega); intro v507 w16 ho hb hg hat; rw [← Ny506.out] at ho; have n0_ := Aside0.mk (Kd.R_over' (by (with_reducible repeat (first | apply Kd.R_alloc | apply Kd.R_drewN | apply Kd.R_drew)); exact HO502.out) (Kd.R_typed (by (with_reducible repeat (first | apply Kd.R_alloc | apply Kd.R_drewN | apply Kd.R_drew)); exact HO505.out)) (by decide) hg); have n1_ := Aside0.mk (hb); have n2_ := Aside0.mk (ho); clear HO502; clear HB; clear HO505; have HO502 := n0_; have HB := n1_; have HO508 := n2_; clear n0_ n1_ n2_; clear ho hb hg hat))
       go_loopg [10, 11] kj7 (fun kq v10 v11 w' => ∃ (x10_3 : List Int) (x11_3 : Int), v11 = .int .i64 x11_3 ∧ Aside0 (postbaglaw4_SpanMeans.l1 kq l0 l2 t500 x10_3 x11_3 = some r) ∧ Aside0 (kq ≤ kj7) ∧ Aside0 (Kd.R k28 28 w' w.heap.size (fun _ => True) v501 t500) ∧ Aside0 (Kd.R (Kd.int .i64) 3 w' w.heap.size (fun _ => True) v10 x10_3) ∧ Aside0 (Below w.heap.size w w'))
       case atStart => exact ⟨(y506), (0), (by first | rfl | (simp; done) | (simp [*]; done)), H', ⟨Nat.le_refl _⟩, ⟨by (with_reducible repeat (first | apply Kd.R_alloc | apply Kd.R_drewN | apply Kd.R_drew)); exact HO502.out⟩, ⟨by (with_reducible repeat (first | apply Kd.R_alloc | apply Kd.R_drewN | apply Kd.R_drew)); exact HO508.out⟩, ⟨by repeat (first | (with_reducible first | exact HB.out | apply below_alloc | apply pw_below_drewN | apply below_drew1) | exact HB.out)⟩⟩
       case round =>
        clear H'
        try clear c1
        try clear c2
        try clear p2
        try clear c4
        try clear p4
        try clear q4
        try clear hx4
        try clear c5
        try clear c5b0
        try clear c6
        try clear c6b0
        try clear p6
        try clear c7
        try clear c7b0
        try clear c9
        try clear c9b0
        try clear c10
        try clear c12
        try clear c13
        try clear hx499_0
        try clear p2
        try clear p4
        try clear p499
        try clear p6
        try clear q4
        try clear q499
        obtain ⟨x10_3, x11_3, rfl, HA, HK3, HO_9, HO_10, HB⟩ := hrel
        cases gk with
        | zero => exact absurd HA.out (by simp [postbaglaw4_SpanMeans.l1])
        | succ k3 =>
         have H := HA.out
         clear HA
         simp only [postbaglaw4_SpanMeans.l1] at H
         by_cases c17 : x11_3 < (l0.length : Int)
         ·rw [if_pos c17] at H
          have c17b0 : decide (x11_3 < (l0.length : Int)) = true := decide_eq_true c17
          clear c17
          have H' := Aside0.mk H
          clear H
          go_wp2
          go_loopg [10, 12] k3 (fun kq v10 v12 w' => ∃ (x10_4 : List Int) (x12_4 : Int), v12 = .int .i64 x12_4 ∧ Aside0 (postbaglaw4_SpanMeans.l2 kq l0 l2 t500 x10_4 x11_3 x12_4 = some r) ∧ Aside0 (kq ≤ k3) ∧ Aside0 (Kd.R k28 28 w' w.heap.size (fun _ => True) v501 t500) ∧ Aside0 (Kd.R (Kd.int .i64) 3 w' w.heap.size (fun _ => True) v10 x10_4) ∧ Aside0 (Below w.heap.size w w'))
          case atStart => exact ⟨(x10_3), (0), (by first | rfl | (simp; done) | (simp [*]; done)), H', ⟨Nat.le_refl _⟩, ⟨by (with_reducible repeat (first | apply Kd.R_alloc | apply Kd.R_drewN | apply Kd.R_drew)); exact HO_9.out⟩, ⟨by (with_reducible repeat (first | apply Kd.R_alloc | apply Kd.R_drewN | apply Kd.R_drew)); exact HO_10.out⟩, ⟨by repeat (first | (with_reducible first | exact HB.out | apply below_alloc | apply pw_below_drewN | apply below_drew1) | exact HB.out)⟩⟩
          case round =>
           clear H'
           try clear c1
           try clear c2
           try clear p2
           try clear c4
           try clear p4
           try clear q4
           try clear hx4
           try clear c5
           try clear c5b0
           try clear c6
           try clear c6b0
           try clear p6
           try clear c7
           try clear c7b0
           try clear c9
           try clear c9b0
           try clear c10
           try clear c12
           try clear c13
           try clear c17
           try clear c17b0
           try clear hx499_0
           try clear p2
           try clear p4
           try clear p499
           try clear p6
           try clear q4
           try clear q499
           obtain ⟨x10_4, x12_4, rfl, HA, HK4, HO_9, HO_10, HB⟩ := hrel
           cases gk with
           | zero => exact absurd HA.out (by simp [postbaglaw4_SpanMeans.l2])
           | succ k4 =>
            have H := HA.out
            clear HA
            simp only [postbaglaw4_SpanMeans.l2] at H
            by_cases c18 : 0 ≤ x11_3
            ·rw [if_pos c18] at H
             have c18b0 : decide (0 ≤ x11_3) = true := decide_eq_true c18
             clear c18
             by_cases c19 : x11_3 < (l0.length : Int)
             ·rw [if_pos c19] at H
              have c19b0 : decide (x11_3 < (l0.length : Int)) = true := decide_eq_true c19
              clear c19
              by_cases c20 : x12_4 < ((rd_L2 l0 x11_3).length : Int)
              ·rw [if_pos c20] at H
               have c20b0 : decide (x12_4 < ((rd_L2 l0 x11_3).length : Int)) = true := decide_eq_true c20
               clear c20
               by_cases c21 : 0 ≤ x12_4
               ·rw [if_pos c21] at H
                have c21b0 : decide (0 ≤ x12_4) = true := decide_eq_true c21
                clear c21
                by_cases c22 : ((rd_T28 (rd_L2 l0 x11_3) x12_4).f0) ≥ 0
                ·rw [if_pos c22] at H
                 have c22b0 : decide (0 ≤ ((rd_T28 (rd_L2 l0 x11_3) x12_4).f0)) = true := decide_eq_true c22
                 clear c22
                 by_cases c23 : ((rd_T28 (rd_L2 l0 x11_3) x12_4).f1) ≥ 0
                 ·rw [if_pos c23] at H
                  have c23b0 : decide (0 ≤ ((rd_T28 (rd_L2 l0 x11_3) x12_4).f1)) = true := decide_eq_true c23
                  clear c23
                  by_cases c24 : ((rd_T28 (rd_L2 l0 x11_3) x12_4).f0) ≤ 4294967295
                  ·rw [if_pos c24] at H
                   have c24b0 : decide (((rd_T28 (rd_L2 l0 x11_3) x12_4).f0) ≤ 4294967295) = true := decide_eq_true c24
                   clear c24
                   by_cases c25 : ((rd_T28 (rd_L2 l0 x11_3) x12_4).f1) ≤ 4294967295
                   ·rw [if_pos c25] at H
                    have c25b0 : decide (((rd_T28 (rd_L2 l0 x11_3) x12_4).f1) ≤ 4294967295) = true := decide_eq_true c25
                    clear c25
                    obtain ⟨y513, hy513⟩ : ∃ y_ : List Int, y_ = (([wrap64 (((rd_T28 (rd_L2 l0 x11_3) x12_4).f0) - 1), (rd_T28 (rd_L2 l0 x11_3) x12_4).f0, wrap64 (((rd_T28 (rd_L2 l0 x11_3) x12_4).f0) + 1), wrap64 (((rd_T28 (rd_L2 l0 x11_3) x12_4).f1) - 1), (rd_T28 (rd_L2 l0 x11_3) x12_4).f1, wrap64 (((rd_T28 (rd_L2 l0 x11_3) x12_4).f1) + 1)] : List Int)) := ⟨_, rfl⟩
                    replace H : (if x10_4.length + y513.length < 17592186044416 then (postbaglaw4_SpanMeans.l2 k4 l0 l2 t500 (x10_4 ++ y513) x11_3 (wrap64 (x12_4 + 1))) else (none)) = some r := by first | (rw [hy513]; with_reducible exact H) | (have H2_ := (Option.bind_some _ _).symm.trans H; rw [hy513]; with_reducible exact H2_) | (have H2_ := (Option.bind_some _ _).symm.trans H; with_reducible exact H2_) | with_reducible exact H | (rw [hy513]; exact H) | exact H
                    have Ny513 := Aside0.mk hy513
                    clear hy513
                    by_cases c26 : x10_4.length + y513.length < 17592186044416
                    ·rw [if_pos c26] at H
                     have LMc26 := Aside0.mk c26
                     clear c26
                     obtain ⟨y516, hy516⟩ : ∃ y_ : List Int, y_ = (x10_4 ++ y513) := ⟨_, rfl⟩
                     replace H : (postbaglaw4_SpanMeans.l2 k4 l0 l2 t500 y516 x11_3 (wrap64 (x12_4 + 1))) = some r := by first | (rw [hy516]; with_reducible exact H) | (have H2_ := (Option.bind_some _ _).symm.trans H; rw [hy516]; with_reducible exact H2_) | (have H2_ := (Option.bind_some _ _).symm.trans H; with_reducible exact H2_) | with_reducible exact H | (rw [hy516]; exact H) | exact H
                     have Ny516 := Aside0.mk hy516
                     clear hy516
                     have H' := Aside0.mk H
                     clear H
                     have p509 : 0 ≤ (x11_3 : Int) := of_decide_eq_true (by first | (with_reducible assumption) | assumption)
                     have q509 : x11_3 < (l0.length : Int) := of_decide_eq_true (by first | (with_reducible assumption) | assumption)
                     obtain ⟨ad509, A509_0, c509_0, e509, hx509_0, hl509_0, hi509_0⟩ := at_L2 HR0.out x11_3 p509 q509
                     cases e509
                     replace hx509_0 := (HB.out.cell (World.block_lt_of_cell? w _ hx509_0)).trans hx509_0
                     have HR509_0 := Aside0.mk hi509_0
                     have HC509_0 := Aside0.mk hl509_0
                     clear hi509_0 hl509_0
                     replace p509 := eq_true p509
                     replace q509 := eq_true q509
                     have p510 : 0 ≤ (x11_3 : Int) := of_decide_eq_true (by first | (with_reducible assumption) | assumption)
                     have q510 : x11_3 < (l0.length : Int) := of_decide_eq_true (by first | (with_reducible assumption) | assumption)
                     obtain ⟨ad510, A510_0, c510_0, e510, hx510_0, hl510_0, hi510_0⟩ := at_L2 HR0.out x11_3 p510 q510
                     obtain rfl : ad509 = ad510 := (by injection e510)
                     replace hx510_0 := (HB.out.cell (World.block_lt_of_cell? w _ hx510_0)).trans hx510_0
                     have HR510_0 := Aside0.mk hi510_0
                     have HC510_0 := Aside0.mk hl510_0
                     clear hi510_0 hl510_0
                     replace p510 := eq_true p510
                     replace q510 := eq_true q510
                     have ea_ := Option.some.inj (hx509_0.symm.trans hx510_0)
                     injection ea_ with ea_ en_ ec_
                     subst ea_
                     subst ec_
                     clear en_
                     have p511 : 0 ≤ (x12_4 : Int) := of_decide_eq_true (by first | (with_reducible assumption) | assumption)
                     have q511 : x12_4 < ((rd_L2 l0 x11_3).length : Int) := of_decide_eq_true (by first | (with_reducible assumption) | assumption)
                     obtain ⟨ad511, e511, hx511_0, hx511_1⟩ := at_T28 HR510_0.out x12_4 p511 q511
                     cases e511
                     replace hx511_0 := (HB.out.cell (World.block_lt_of_cell? w _ hx511_0)).trans hx511_0
                     replace hx511_1 := (HB.out.cell (World.block_lt_of_cell? w _ hx511_1)).trans hx511_1
                     replace p511 := eq_true p511
                     replace q511 := eq_true q511
                     go_wp2_with (first | ((with_reducible refine gate_dst (N := 13) rfl ?_); (try (refine gate_guard (by rfl) ?_; dsimp only)); refine box_event ?hg (N := 13) ?hd (cs := #[.int .i64 0, .int .i64 0]) (t := 28) ?hr ?_; (case hd => rfl); (case hg => rfl); (case hr => first | (go_simp; done) | (go_simp; rfl)); intro gb512 hg w27 hbox hb; have n0_ := Aside0.mk (Kd.R_below (Kd.R_elderB (by (with_reducible repeat (first | apply Kd.R_alloc | apply Kd.R_drewN | apply Kd.R_drew)); exact HO_9.out) gb512 (Nat.le_of_eq hg.symm)) hb); have n1_ := Aside0.mk (Kd.R_below (by (with_reducible repeat (first | apply Kd.R_alloc | apply Kd.R_drewN | apply Kd.R_drew)); exact HO_10.out) hb); have n2_ := Aside0.mk (below_step (by repeat (first | (with_reducible first | exact HB.out | apply below_alloc | apply pw_below_drewN | apply below_drew1) | exact HB.out)) hb); have n3_ := Aside0.mk (hbox); have n4_ := Aside0.mk ((by rw [hg]; exact (below_size (by repeat (first | (with_reducible first | exact HB.out | apply below_alloc | apply pw_below_drewN | apply below_drew1) | exact HB.out))) : w.heap.size ≤ gb512)); have n5_ := Aside0.mk ((by rw [hg]; exact (below_size (by repeat (first | (with_reducible first | exact HB.out | apply below_alloc | apply pw_below_drewN | apply below_drew1) | exact HB.out))) : w.heap.size ≤ gb512)); clear HO_9; clear HO_10; clear HB; have HO_9 := n0_; have HO_10 := n1_; have HB := n2_; have BK512 := n3_; have GW512 := n4_; have GE512 := n5_; clear n0_ n1_ n2_ n3_ n4_ n5_; clear hb hbox hg; have hcz28_0 : w27.cell? ⟨gb512, 0, none⟩ = some (.int .i64 0) := (blk_cell BK512.out 0).trans rfl; have hcz28_1 : w27.cell? ⟨gb512, 1, none⟩ = some (.int .i64 0) := (blk_cell BK512.out 1).trans rfl; have hfz28_0 := blk_frozen BK512.out 0; have hfz28_1 := blk_frozen BK512.out 1) | ((with_reducible refine gate_dst (N := 112) rfl ?_); (try (refine gate_guard (by rfl) ?_; dsimp only)); refine Kd.R_lit (Kd.int .i64) _ 3 ?hg (N := 112) ?hd (xs := ([wrap64 (((rd_T28 (rd_L2 l0 x11_3) x12_4).f0) - 1), (rd_T28 (rd_L2 l0 x11_3) x12_4).f0, wrap64 (((rd_T28 (rd_L2 l0 x11_3) x12_4).f0) + 1), wrap64 (((rd_T28 (rd_L2 l0 x11_3) x12_4).f1) - 1), (rd_T28 (rd_L2 l0 x11_3) x12_4).f1, wrap64 (((rd_T28 (rd_L2 l0 x11_3) x12_4).f1) + 1)] : List Int)) (inner := [.int .i64 (wrap64 (((rd_T28 (rd_L2 l0 x11_3) x12_4).f0) - 1)), .int .i64 ((rd_T28 (rd_L2 l0 x11_3) x12_4).f0), .int .i64 (wrap64 (((rd_T28 (rd_L2 l0 x11_3) x12_4).f0) + 1)), .int .i64 (wrap64 (((rd_T28 (rd_L2 l0 x11_3) x12_4).f1) - 1)), .int .i64 ((rd_T28 (rd_L2 l0 x11_3) x12_4).f1), .int .i64 (wrap64 (((rd_T28 (rd_L2 l0 x11_3) x12_4).f1) + 1))]) (ok := fun _ => True) (okp := fun _ => True) ?hr ?hp (fun _ hk => hk) trivial (Below.refl _ _) (Nat.le_refl _) (by simp) ?_; (case hd => rfl); (case hg => rfl); (case hr => first | (go_simp; done) | (go_simp; rfl)); (case hp => exact (Reps.one (show Kd.M (Kd.int .i64) _ _ _ (wrap64 (((rd_T28 (rd_L2 l0 x11_3) x12_4).f0) - 1)) [.int .i64 (wrap64 (((rd_T28 (rd_L2 l0 x11_3) x12_4).f0) - 1))] from rfl) (Reps.one (show Kd.M (Kd.int .i64) _ _ _ ((rd_T28 (rd_L2 l0 x11_3) x12_4).f0) [.int .i64 ((rd_T28 (rd_L2 l0 x11_3) x12_4).f0)] from rfl) (Reps.one (show Kd.M (Kd.int .i64) _ _ _ (wrap64 (((rd_T28 (rd_L2 l0 x11_3) x12_4).f0) + 1)) [.int .i64 (wrap64 (((rd_T28 (rd_L2 l0 x11_3) x12_4).f0) + 1))] from rfl) (Reps.one (show Kd.M (Kd.int .i64) _ _ _ (wrap64 (((rd_T28 (rd_L2 l0 x11_3) x12_4).f1) - 1)) [.int .i64 (wrap64 (((rd_T28 (rd_L2 l0 x11_3) x12_4).f1) - 1))] from rfl) (Reps.one (show Kd.M (Kd.int .i64) _ _ _ ((rd_T28 (rd_L2 l0 x11_3) x12_4).f1) [.int .i64 ((rd_T28 (rd_L2 l0 x11_3) x12_4).f1)] from rfl) (Reps.one (show Kd.M (Kd.int .i64) _ _ _ (wrap64 (((rd_T28 (rd_L2 l0 x11_3) x12_4).f1) + 1)) [.int .i64 (wrap64 (((rd_T28 (rd_L2 l0 x11_3) x12_4).f1) + 1))] from rfl) (Reps.none _ _)))))))); intro v514 w29 ho30 hb hg_ hnew_; clear hg_ hnew_; (first | rw [← Ny513.out] at ho30 | (simp only [Int.reduceToNat] at ho30; rw [← Ny513.out] at ho30)); have n0_ := Aside0.mk (Kd.R_below (by (with_reducible repeat (first | apply Kd.R_alloc | apply Kd.R_drewN | apply Kd.R_drew)); exact (Kd.R_mono (Kd.R_far (p := ⟨gb512, 1, none⟩) (Kd.R_far (p := ⟨gb512, 0, none⟩) (Kd.R_mono HO_9.out (fun k_ hk => (⟨hk, hk.2⟩ : _ ∧ k_ ≠ gb512))) (fun _ hk => hk.2) (.int .i64 ((rd_T28 (rd_L2 l0 x11_3) x12_4).f0))) (fun _ hk => hk.2) (.int .i64 ((rd_T28 (rd_L2 l0 x11_3) x12_4).f1))) (fun _ h_ => h_.1))) hb); have n1_ := Aside0.mk (Kd.R_elder' (by (with_reducible repeat (first | apply Kd.R_alloc | apply Kd.R_drewN | apply Kd.R_drew)); exact (Kd.R_mono (Kd.R_far (p := ⟨gb512, 1, none⟩) (Kd.R_far (p := ⟨gb512, 0, none⟩) (Kd.R_types HO_10.out BK512.out (by decide)) (fun _ hk => hk.2) (.int .i64 ((rd_T28 (rd_L2 l0 x11_3) x12_4).f0))) (fun _ hk => hk.2) (.int .i64 ((rd_T28 (rd_L2 l0 x11_3) x12_4).f1))) (fun _ h_ => h_.1))) (Kd.R_base ho30) hb); have n2_ := Aside0.mk (Kd.R_lower (Kd.R_new' ho30 (Kd.R_lt (by (with_reducible repeat (first | apply Kd.R_alloc | apply Kd.R_drewN | apply Kd.R_drew)); exact (Kd.R_mono (Kd.R_far (p := ⟨gb512, 1, none⟩) (Kd.R_far (p := ⟨gb512, 0, none⟩) (Kd.R_types HO_10.out BK512.out (by decide)) (fun _ hk => hk.2) (.int .i64 ((rd_T28 (rd_L2 l0 x11_3) x12_4).f0))) (fun _ hk => hk.2) (.int .i64 ((rd_T28 (rd_L2 l0 x11_3) x12_4).f1))) (fun _ h_ => h_.1))))) (below_size (by repeat (first | (with_reducible first | exact HB.out | apply below_alloc | apply pw_below_drewN | apply below_drew1 | refine below_set ?_ GE512.out) | exact HB.out)))); have n3_ := Aside0.mk (blk_below (g := gb512) (o := .cells #[.int .i64 ((rd_T28 (rd_L2 l0 x11_3) x12_4).f0), .int .i64 ((rd_T28 (rd_L2 l0 x11_3) x12_4).f1)] 28 (0, 0)) (by (with_reducible repeat (first | refine blk_drewN ?_ _ | refine blk_drew ?_ | refine blk_alloc ?_ _)); refine blk_put (cs := #[.int .i64 ((rd_T28 (rd_L2 l0 x11_3) x12_4).f0), .int .i64 0]) ?_ 1 _ rfl; (with_reducible repeat (first | refine blk_drewN ?_ _ | refine blk_drew ?_ | refine blk_alloc ?_ _)); refine blk_put (cs := #[.int .i64 0, .int .i64 0]) ?_ 0 _ rfl; (with_reducible repeat (first | refine blk_drewN ?_ _ | refine blk_drew ?_ | refine blk_alloc ?_ _)); exact BK512.out) hb); have n4_ := Aside0.mk (below_step (by repeat (first | (with_reducible first | exact HB.out | apply below_alloc | apply pw_below_drewN | apply below_drew1 | refine below_set ?_ GE512.out) | exact HB.out)) hb); clear HO_9; clear HO_10; clear BK512; clear HB; have HO_9 := n0_; have HO_10 := n1_; have HO515 := n2_; have BK512 := n3_; have HB := n4_; clear n0_ n1_ n2_ n3_ n4_; clear hb ho30; obtain ⟨Ao32, co32, eo32⟩ := Kd.R_slice HO515.out; subst eo32) | ((with_reducible refine gate_builtin (b := .append) (xs := #[.tmp 95, .tmp 112]) rfl ?_); (try (refine gate_guard (by rfl) ?_; dsimp only)); at_builtin; refine Kd.R_append_rows (Kd.int .i64) (w0 := w) w.heap.size rfl (.tmp 95) (.tmp 112) 22 3 (.int .i64 0) 8 rfl Tryd.underlying22 info3 rfl (by decide) (by omega) u10 x10_4 y513 _ _ _ (fun k_ => some k_ ≠ (.slice Ao32 y513.length co32 : Value).ownBlock) (fun _ => False) rfl rfl ?aO ?aR (fun _ _ h => h) (fun _ h => h.elim) ?aF ?aB ?aS ?aL ?_; (case aR => repeat (first | exact (Kd.R_reads' HO515.out).2.2 | (with_reducible refine Kd.C_alloc ?_ _) | (with_reducible refine Kd.C_drewN ?_ _) | (with_reducible refine Kd.C_drew ?_))); (case aB => exact (by repeat (first | (with_reducible first | exact HB.out | apply below_alloc | apply pw_below_drewN | apply below_drew1 | refine below_set ?_ GE512.out) | exact HB.out))); (case aF => exact (fun k_ hk => Kd.fresh' (Kd.R_lt (by (with_reducible repeat (first | apply Kd.R_alloc | apply Kd.R_drewN | apply Kd.R_drew)); exact HO515.out)) k_ hk)); (case aO => exact (by (with_reducible repeat (first | apply Kd.R_alloc | apply Kd.R_drewN | apply Kd.R_drew)); exact Kd.R_mono HO_10.out (fun _ hk => hk.2))); (case aS => exact (below_size (by repeat (first | (with_reducible first | exact HB.out | apply below_alloc | apply pw_below_drewN | apply below_drew1 | refine below_set ?_ GE512.out) | exact HB.out)))); (case aL => have := LMc26.out; omega); intro v517 w31 ho hb hg hat; rw [← Ny516.out] at ho; have n0_ := Aside0.mk (Kd.R_over' (by (with_reducible repeat (first | apply Kd.R_alloc | apply Kd.R_drewN | apply Kd.R_drew)); exact HO_9.out) (Kd.R_typed (by (with_reducible repeat (first | apply Kd.R_alloc | apply Kd.R_drewN | apply Kd.R_drew)); exact HO_10.out)) (by decide) hg); have n1_ := Aside0.mk (blk_grown (g := gb512) (o := .cells #[.int .i64 ((rd_T28 (rd_L2 l0 x11_3) x12_4).f0), .int .i64 ((rd_T28 (rd_L2 l0 x11_3) x12_4).f1)] 28 (0, 0)) (by (with_reducible repeat (first | refine blk_drewN ?_ _ | refine blk_drew ?_ | refine blk_alloc ?_ _)); exact BK512.out) hg (Kd.R_ne HO_10.out BK512.out (by decide))); have n2_ := Aside0.mk (Kd.R_after (ok := (fun _ => True)) (by (with_reducible repeat (first | apply Kd.R_alloc | apply Kd.R_drewN | apply Kd.R_drew)); exact HO515.out) hg hat); have n3_ := Aside0.mk (hb); have n4_ := Aside0.mk (ho); clear HO_9; clear BK512; clear HO515; clear HB; clear HO_10; have HO_9 := n0_; have BK512 := n1_; have HO515 := n2_; have HB := n3_; have HO518 := n4_; clear n0_ n1_ n2_ n3_ n4_; clear ho hb hg hat))
                     go_roundg k4
                     case measure => have := HJ3.out; have := HJ7.out; have := HK3.out; have := HK4.out; omega
                     case rel => exact ⟨(y516), (wrap64 (x12_4 + 1)), (by first | rfl | (simp; done) | (simp [*]; done)), H', ⟨by have := HJ3.out; have := HJ7.out; have := HK3.out; have := HK4.out; omega⟩, ⟨by (with_reducible repeat (first | apply Kd.R_alloc | apply Kd.R_drewN | apply Kd.R_drew)); exact Kd.R_mono HO_9.out (fun _ hk => trivial)⟩, ⟨by (with_reducible repeat (first | apply Kd.R_alloc | apply Kd.R_drewN | apply Kd.R_drew)); exact Kd.R_mono HO518.out (fun _ hk => trivial)⟩, ⟨by repeat (first | (with_reducible first | exact HB.out | apply below_alloc | apply pw_below_drewN | apply below_drew1 | refine below_set ?_ GE512.out) | exact HB.out)⟩⟩
                    ·rw [if_neg c26] at H
                     exact absurd H (by simp)
                   ·rw [if_neg c25] at H
                    have c25b0 : decide (((rd_T28 (rd_L2 l0 x11_3) x12_4).f1) ≤ 4294967295) = false := decide_eq_false c25
                    clear c25
                    have H' := Aside0.mk H
                    clear H
                    have p509 : 0 ≤ (x11_3 : Int) := of_decide_eq_true (by first | (with_reducible assumption) | assumption)
                    have q509 : x11_3 < (l0.length : Int) := of_decide_eq_true (by first | (with_reducible assumption) | assumption)
                    obtain ⟨ad509, A509_0, c509_0, e509, hx509_0, hl509_0, hi509_0⟩ := at_L2 HR0.out x11_3 p509 q509
                    cases e509
                    replace hx509_0 := (HB.out.cell (World.block_lt_of_cell? w _ hx509_0)).trans hx509_0
                    have HR509_0 := Aside0.mk hi509_0
                    have HC509_0 := Aside0.mk hl509_0
                    clear hi509_0 hl509_0
                    replace p509 := eq_true p509
                    replace q509 := eq_true q509
                    have p510 : 0 ≤ (x11_3 : Int) := of_decide_eq_true (by first | (with_reducible assumption) | assumption)
                    have q510 : x11_3 < (l0.length : Int) := of_decide_eq_true (by first | (with_reducible assumption) | assumption)
                    obtain ⟨ad510, A510_0, c510_0, e510, hx510_0, hl510_0, hi510_0⟩ := at_L2 HR0.out x11_3 p510 q510
                    obtain rfl : ad509 = ad510 := (by injection e510)
                    replace hx510_0 := (HB.out.cell (World.block_lt_of_cell? w _ hx510_0)).trans hx510_0
                    have HR510_0 := Aside0.mk hi510_0
                    have HC510_0 := Aside0.mk hl510_0
                    clear hi510_0 hl510_0
                    replace p510 := eq_true p510
                    replace q510 := eq_true q510
                    have ea_ := Option.some.inj (hx509_0.symm.trans hx510_0)
                    injection ea_ with ea_ en_ ec_
                    subst ea_
                    subst ec_
                    clear en_
                    have p511 : 0 ≤ (x12_4 : Int) := of_decide_eq_true (by first | (with_reducible assumption) | assumption)
                    have q511 : x12_4 < ((rd_L2 l0 x11_3).length : Int) := of_decide_eq_true (by first | (with_reducible assumption) | assumption)
                    obtain ⟨ad511, e511, hx511_0, hx511_1⟩ := at_T28 HR510_0.out x12_4 p511 q511
                    cases e511
                    replace hx511_0 := (HB.out.cell (World.block_lt_of_cell? w _ hx511_0)).trans hx511_0
                    replace hx511_1 := (HB.out.cell (World.block_lt_of_cell? w _ hx511_1)).trans hx511_1
                    replace p511 := eq_true p511
                    replace q511 := eq_true q511
                    go_wp2_with (first | ((with_reducible refine gate_dst (N := 13) rfl ?_); (try (refine gate_guard (by rfl) ?_; dsimp only)); refine box_event ?hg (N := 13) ?hd (cs := #[.int .i64 0, .int .i64 0]) (t := 28) ?hr ?_; (case hd => rfl); (case hg => rfl); (case hr => first | (go_simp; done) | (go_simp; rfl)); intro gb512 hg w33 hbox hb; have n0_ := Aside0.mk (Kd.R_below (Kd.R_elderB (by (with_reducible repeat (first | apply Kd.R_alloc | apply Kd.R_drewN | apply Kd.R_drew)); exact HO_9.out) gb512 (Nat.le_of_eq hg.symm)) hb); have n1_ := Aside0.mk (Kd.R_below (by (with_reducible repeat (first | apply Kd.R_alloc | apply Kd.R_drewN | apply Kd.R_drew)); exact HO_10.out) hb); have n2_ := Aside0.mk (below_step (by repeat (first | (with_reducible first | exact HB.out | apply below_alloc | apply pw_below_drewN | apply below_drew1) | exact HB.out)) hb); have n3_ := Aside0.mk (hbox); have n4_ := Aside0.mk ((by rw [hg]; exact (below_size (by repeat (first | (with_reducible first | exact HB.out | apply below_alloc | apply pw_below_drewN | apply below_drew1) | exact HB.out))) : w.heap.size ≤ gb512)); have n5_ := Aside0.mk ((by rw [hg]; exact (below_size (by repeat (first | (with_reducible first | exact HB.out | apply below_alloc | apply pw_below_drewN | apply below_drew1) | exact HB.out))) : w.heap.size ≤ gb512)); clear HO_9; clear HO_10; clear HB; have HO_9 := n0_; have HO_10 := n1_; have HB := n2_; have BK512 := n3_; have GW512 := n4_; have GE512 := n5_; clear n0_ n1_ n2_ n3_ n4_ n5_; clear hb hbox hg; have hcz34_0 : w33.cell? ⟨gb512, 0, none⟩ = some (.int .i64 0) := (blk_cell BK512.out 0).trans rfl; have hcz34_1 : w33.cell? ⟨gb512, 1, none⟩ = some (.int .i64 0) := (blk_cell BK512.out 1).trans rfl; have hfz34_0 := blk_frozen BK512.out 0; have hfz34_1 := blk_frozen BK512.out 1))
                    go_roundg k4
                    case measure => have := HJ3.out; have := HJ7.out; have := HK3.out; have := HK4.out; omega
                    case rel => exact ⟨(x10_4), (wrap64 (x12_4 + 1)), (by first | rfl | (simp; done) | (simp [*]; done)), H', ⟨by have := HJ3.out; have := HJ7.out; have := HK3.out; have := HK4.out; omega⟩, ⟨by (with_reducible repeat (first | apply Kd.R_alloc | apply Kd.R_drewN | apply Kd.R_drew)); exact Kd.R_mono (Kd.R_far (p := ⟨gb512, 1, none⟩) (Kd.R_far (p := ⟨gb512, 0, none⟩) (Kd.R_mono HO_9.out (fun k_ hk => (⟨hk, hk.2⟩ : _ ∧ k_ ≠ gb512))) (fun _ hk => hk.2) (.int .i64 ((rd_T28 (rd_L2 l0 x11_3) x12_4).f0))) (fun _ hk => hk.2) (.int .i64 ((rd_T28 (rd_L2 l0 x11_3) x12_4).f1))) (fun _ hk => trivial)⟩, ⟨by (with_reducible repeat (first | apply Kd.R_alloc | apply Kd.R_drewN | apply Kd.R_drew)); exact Kd.R_mono (Kd.R_far (p := ⟨gb512, 1, none⟩) (Kd.R_far (p := ⟨gb512, 0, none⟩) (Kd.R_types HO_10.out BK512.out (by decide)) (fun _ hk => hk.2) (.int .i64 ((rd_T28 (rd_L2 l0 x11_3) x12_4).f0))) (fun _ hk => hk.2) (.int .i64 ((rd_T28 (rd_L2 l0 x11_3) x12_4).f1))) (fun _ hk => trivial)⟩, ⟨by repeat (first | (with_reducible first | exact HB.out | apply below_alloc | apply pw_below_drewN | apply below_drew1 | refine below_set ?_ GE512.out) | exact HB.out)⟩⟩
                  ·rw [if_neg c24] at H
                   have c24b0 : decide (((rd_T28 (rd_L2 l0 x11_3) x12_4).f0) ≤ 4294967295) = false := decide_eq_false c24
                   clear c24
                   have H' := Aside0.mk H
                   clear H
                   have p509 : 0 ≤ (x11_3 : Int) := of_decide_eq_true (by first | (with_reducible assumption) | assumption)
                   have q509 : x11_3 < (l0.length : Int) := of_decide_eq_true (by first | (with_reducible assumption) | assumption)
                   obtain ⟨ad509, A509_0, c509_0, e509, hx509_0, hl509_0, hi509_0⟩ := at_L2 HR0.out x11_3 p509 q509
                   cases e509
                   replace hx509_0 := (HB.out.cell (World.block_lt_of_cell? w _ hx509_0)).trans hx509_0
                   have HR509_0 := Aside0.mk hi509_0
                   have HC509_0 := Aside0.mk hl509_0
                   clear hi509_0 hl509_0
                   replace p509 := eq_true p509
                   replace q509 := eq_true q509
                   have p510 : 0 ≤ (x11_3 : Int) := of_decide_eq_true (by first | (with_reducible assumption) | assumption)
                   have q510 : x11_3 < (l0.length : Int) := of_decide_eq_true (by first | (with_reducible assumption) | assumption)
                   obtain ⟨ad510, A510_0, c510_0, e510, hx510_0, hl510_0, hi510_0⟩ := at_L2 HR0.out x11_3 p510 q510
                   obtain rfl : ad509 = ad510 := (by injection e510)
                   replace hx510_0 := (HB.out.cell (World.block_lt_of_cell? w _ hx510_0)).trans hx510_0
                   have HR510_0 := Aside0.mk hi510_0
                   have HC510_0 := Aside0.mk hl510_0
                   clear hi510_0 hl510_0
                   replace p510 := eq_true p510
                   replace q510 := eq_true q510
                   have ea_ := Option.some.inj (hx509_0.symm.trans hx510_0)
                   injection ea_ with ea_ en_ ec_
                   subst ea_
                   subst ec_
                   clear en_
                   have p511 : 0 ≤ (x12_4 : Int) := of_decide_eq_true (by first | (with_reducible assumption) | assumption)
                   have q511 : x12_4 < ((rd_L2 l0 x11_3).length : Int) := of_decide_eq_true (by first | (with_reducible assumption) | assumption)
                   obtain ⟨ad511, e511, hx511_0, hx511_1⟩ := at_T28 HR510_0.out x12_4 p511 q511
                   cases e511
                   replace hx511_0 := (HB.out.cell (World.block_lt_of_cell? w _ hx511_0)).trans hx511_0
                   replace hx511_1 := (HB.out.cell (World.block_lt_of_cell? w _ hx511_1)).trans hx511_1
                   replace p511 := eq_true p511
                   replace q511 := eq_true q511
                   go_wp2_with (first | ((with_reducible refine gate_dst (N := 13) rfl ?_); (try (refine gate_guard (by rfl) ?_; dsimp only)); refine box_event ?hg (N := 13) ?hd (cs := #[.int .i64 0, .int .i64 0]) (t := 28) ?hr ?_; (case hd => rfl); (case hg => rfl); (case hr => first | (go_simp; done) | (go_simp; rfl)); intro gb512 hg w35 hbox hb; have n0_ := Aside0.mk (Kd.R_below (Kd.R_elderB (by (with_reducible repeat (first | apply Kd.R_alloc | apply Kd.R_drewN | apply Kd.R_drew)); exact HO_9.out) gb512 (Nat.le_of_eq hg.symm)) hb); have n1_ := Aside0.mk (Kd.R_below (by (with_reducible repeat (first | apply Kd.R_alloc | apply Kd.R_drewN | apply Kd.R_drew)); exact HO_10.out) hb); have n2_ := Aside0.mk (below_step (by repeat (first | (with_reducible first | exact HB.out | apply below_alloc | apply pw_below_drewN | apply below_drew1) | exact HB.out)) hb); have n3_ := Aside0.mk (hbox); have n4_ := Aside0.mk ((by rw [hg]; exact (below_size (by repeat (first | (with_reducible first | exact HB.out | apply below_alloc | apply pw_below_drewN | apply below_drew1) | exact HB.out))) : w.heap.size ≤ gb512)); have n5_ := Aside0.mk ((by rw [hg]; exact (below_size (by repeat (first | (with_reducible first | exact HB.out | apply below_alloc | apply pw_below_drewN | apply below_drew1) | exact HB.out))) : w.heap.size ≤ gb512)); clear HO_9; clear HO_10; clear HB; have HO_9 := n0_; have HO_10 := n1_; have HB := n2_; have BK512 := n3_; have GW512 := n4_; have GE512 := n5_; clear n0_ n1_ n2_ n3_ n4_ n5_; clear hb hbox hg; have hcz36_0 : w35.cell? ⟨gb512, 0, none⟩ = some (.int .i64 0) := (blk_cell BK512.out 0).trans rfl; have hcz36_1 : w35.cell? ⟨gb512, 1, none⟩ = some (.int .i64 0) := (blk_cell BK512.out 1).trans rfl; have hfz36_0 := blk_frozen BK512.out 0; have hfz36_1 := blk_frozen BK512.out 1))
                   go_roundg k4
                   case measure => have := HJ3.out; have := HJ7.out; have := HK3.out; have := HK4.out; omega
                   case rel => exact ⟨(x10_4), (wrap64 (x12_4 + 1)), (by first | rfl | (simp; done) | (simp [*]; done)), H', ⟨by have := HJ3.out; have := HJ7.out; have := HK3.out; have := HK4.out; omega⟩, ⟨by (with_reducible repeat (first | apply Kd.R_alloc | apply Kd.R_drewN | apply Kd.R_drew)); exact Kd.R_mono (Kd.R_far (p := ⟨gb512, 1, none⟩) (Kd.R_far (p := ⟨gb512, 0, none⟩) (Kd.R_mono HO_9.out (fun k_ hk => (⟨hk, hk.2⟩ : _ ∧ k_ ≠ gb512))) (fun _ hk => hk.2) (.int .i64 ((rd_T28 (rd_L2 l0 x11_3) x12_4).f0))) (fun _ hk => hk.2) (.int .i64 ((rd_T28 (rd_L2 l0 x11_3) x12_4).f1))) (fun _ hk => trivial)⟩, ⟨by (with_reducible repeat (first | apply Kd.R_alloc | apply Kd.R_drewN | apply Kd.R_drew)); exact Kd.R_mono (Kd.R_far (p := ⟨gb512, 1, none⟩) (Kd.R_far (p := ⟨gb512, 0, none⟩) (Kd.R_types HO_10.out BK512.out (by decide)) (fun _ hk => hk.2) (.int .i64 ((rd_T28 (rd_L2 l0 x11_3) x12_4).f0))) (fun _ hk => hk.2) (.int .i64 ((rd_T28 (rd_L2 l0 x11_3) x12_4).f1))) (fun _ hk => trivial)⟩, ⟨by repeat (first | (with_reducible first | exact HB.out | apply below_alloc | apply pw_below_drewN | apply below_drew1 | refine below_set ?_ GE512.out) | exact HB.out)⟩⟩
                 ·rw [if_neg c23] at H
                  have c23b0 : decide (0 ≤ ((rd_T28 (rd_L2 l0 x11_3) x12_4).f1)) = false := decide_eq_false c23
                  clear c23
                  have H' := Aside0.mk H
                  clear H
                  have p509 : 0 ≤ (x11_3 : Int) := of_decide_eq_true (by first | (with_reducible assumption) | assumption)
                  have q509 : x11_3 < (l0.length : Int) := of_decide_eq_true (by first | (with_reducible assumption) | assumption)
                  obtain ⟨ad509, A509_0, c509_0, e509, hx509_0, hl509_0, hi509_0⟩ := at_L2 HR0.out x11_3 p509 q509
                  cases e509
                  replace hx509_0 := (HB.out.cell (World.block_lt_of_cell? w _ hx509_0)).trans hx509_0
                  have HR509_0 := Aside0.mk hi509_0
                  have HC509_0 := Aside0.mk hl509_0
                  clear hi509_0 hl509_0
                  replace p509 := eq_true p509
                  replace q509 := eq_true q509
                  have p510 : 0 ≤ (x11_3 : Int) := of_decide_eq_true (by first | (with_reducible assumption) | assumption)
                  have q510 : x11_3 < (l0.length : Int) := of_decide_eq_true (by first | (with_reducible assumption) | assumption)
                  obtain ⟨ad510, A510_0, c510_0, e510, hx510_0, hl510_0, hi510_0⟩ := at_L2 HR0.out x11_3 p510 q510
                  obtain rfl : ad509 = ad510 := (by injection e510)
                  replace hx510_0 := (HB.out.cell (World.block_lt_of_cell? w _ hx510_0)).trans hx510_0
                  have HR510_0 := Aside0.mk hi510_0
                  have HC510_0 := Aside0.mk hl510_0
                  clear hi510_0 hl510_0
                  replace p510 := eq_true p510
                  replace q510 := eq_true q510
                  have ea_ := Option.some.inj (hx509_0.symm.trans hx510_0)
                  injection ea_ with ea_ en_ ec_
                  subst ea_
                  subst ec_
                  clear en_
                  have p511 : 0 ≤ (x12_4 : Int) := of_decide_eq_true (by first | (with_reducible assumption) | assumption)
                  have q511 : x12_4 < ((rd_L2 l0 x11_3).length : Int) := of_decide_eq_true (by first | (with_reducible assumption) | assumption)
                  obtain ⟨ad511, e511, hx511_0, hx511_1⟩ := at_T28 HR510_0.out x12_4 p511 q511
                  cases e511
                  replace hx511_0 := (HB.out.cell (World.block_lt_of_cell? w _ hx511_0)).trans hx511_0
                  replace hx511_1 := (HB.out.cell (World.block_lt_of_cell? w _ hx511_1)).trans hx511_1
                  replace p511 := eq_true p511
                  replace q511 := eq_true q511
                  go_wp2_with (first | ((with_reducible refine gate_dst (N := 13) rfl ?_); (try (refine gate_guard (by rfl) ?_; dsimp only)); refine box_event ?hg (N := 13) ?hd (cs := #[.int .i64 0, .int .i64 0]) (t := 28) ?hr ?_; (case hd => rfl); (case hg => rfl); (case hr => first | (go_simp; done) | (go_simp; rfl)); intro gb512 hg w37 hbox hb; have n0_ := Aside0.mk (Kd.R_below (Kd.R_elderB (by (with_reducible repeat (first | apply Kd.R_alloc | apply Kd.R_drewN | apply Kd.R_drew)); exact HO_9.out) gb512 (Nat.le_of_eq hg.symm)) hb); have n1_ := Aside0.mk (Kd.R_below (by (with_reducible repeat (first | apply Kd.R_alloc | apply Kd.R_drewN | apply Kd.R_drew)); exact HO_10.out) hb); have n2_ := Aside0.mk (below_step (by repeat (first | (with_reducible first | exact HB.out | apply below_alloc | apply pw_below_drewN | apply below_drew1) | exact HB.out)) hb); have n3_ := Aside0.mk (hbox); have n4_ := Aside0.mk ((by rw [hg]; exact (below_size (by repeat (first | (with_reducible first | exact HB.out | apply below_alloc | apply pw_below_drewN | apply below_drew1) | exact HB.out))) : w.heap.size ≤ gb512)); have n5_ := Aside0.mk ((by rw [hg]; exact (below_size (by repeat (first | (with_reducible first | exact HB.out | apply below_alloc | apply pw_below_drewN | apply below_drew1) | exact HB.out))) : w.heap.size ≤ gb512)); clear HO_9; clear HO_10; clear HB; have HO_9 := n0_; have HO_10 := n1_; have HB := n2_; have BK512 := n3_; have GW512 := n4_; have GE512 := n5_; clear n0_ n1_ n2_ n3_ n4_ n5_; clear hb hbox hg; have hcz38_0 : w37.cell? ⟨gb512, 0, none⟩ = some (.int .i64 0) := (blk_cell BK512.out 0).trans rfl; have hcz38_1 : w37.cell? ⟨gb512, 1, none⟩ = some (.int .i64 0) := (blk_cell BK512.out 1).trans rfl; have hfz38_0 := blk_frozen BK512.out 0; have hfz38_1 := blk_frozen BK512.out 1))
                  go_roundg k4
                  case measure => have := HJ3.out; have := HJ7.out; have := HK3.out; have := HK4.out; omega
                  case rel => exact ⟨(x10_4), (wrap64 (x12_4 + 1)), (by first | rfl | (simp; done) | (simp [*]; done)), H', ⟨by have := HJ3.out; have := HJ7.out; have := HK3.out; have := HK4.out; omega⟩, ⟨by (with_reducible repeat (first | apply Kd.R_alloc | apply Kd.R_drewN | apply Kd.R_drew)); exact Kd.R_mono (Kd.R_far (p := ⟨gb512, 1, none⟩) (Kd.R_far (p := ⟨gb512, 0, none⟩) (Kd.R_mono HO_9.out (fun k_ hk => (⟨hk, hk.2⟩ : _ ∧ k_ ≠ gb512))) (fun _ hk => hk.2) (.int .i64 ((rd_T28 (rd_L2 l0 x11_3) x12_4).f0))) (fun _ hk => hk.2) (.int .i64 ((rd_T28 (rd_L2 l0 x11_3) x12_4).f1))) (fun _ hk => trivial)⟩, ⟨by (with_reducible repeat (first | apply Kd.R_alloc | apply Kd.R_drewN | apply Kd.R_drew)); exact Kd.R_mono (Kd.R_far (p := ⟨gb512, 1, none⟩) (Kd.R_far (p := ⟨gb512, 0, none⟩) (Kd.R_types HO_10.out BK512.out (by decide)) (fun _ hk => hk.2) (.int .i64 ((rd_T28 (rd_L2 l0 x11_3) x12_4).f0))) (fun _ hk => hk.2) (.int .i64 ((rd_T28 (rd_L2 l0 x11_3) x12_4).f1))) (fun _ hk => trivial)⟩, ⟨by repeat (first | (with_reducible first | exact HB.out | apply below_alloc | apply pw_below_drewN | apply below_drew1 | refine below_set ?_ GE512.out) | exact HB.out)⟩⟩
                ·rw [if_neg c22] at H
                 have c22b0 : decide (0 ≤ ((rd_T28 (rd_L2 l0 x11_3) x12_4).f0)) = false := decide_eq_false c22
                 clear c22
                 have H' := Aside0.mk H
                 clear H
                 have p509 : 0 ≤ (x11_3 : Int) := of_decide_eq_true (by first | (with_reducible assumption) | assumption)
                 have q509 : x11_3 < (l0.length : Int) := of_decide_eq_true (by first | (with_reducible assumption) | assumption)
                 obtain ⟨ad509, A509_0, c509_0, e509, hx509_0, hl509_0, hi509_0⟩ := at_L2 HR0.out x11_3 p509 q509
                 cases e509
                 replace hx509_0 := (HB.out.cell (World.block_lt_of_cell? w _ hx509_0)).trans hx509_0
                 have HR509_0 := Aside0.mk hi509_0
                 have HC509_0 := Aside0.mk hl509_0
                 clear hi509_0 hl509_0
                 replace p509 := eq_true p509
                 replace q509 := eq_true q509
                 have p510 : 0 ≤ (x11_3 : Int) := of_decide_eq_true (by first | (with_reducible assumption) | assumption)
                 have q510 : x11_3 < (l0.length : Int) := of_decide_eq_true (by first | (with_reducible assumption) | assumption)
                 obtain ⟨ad510, A510_0, c510_0, e510, hx510_0, hl510_0, hi510_0⟩ := at_L2 HR0.out x11_3 p510 q510
                 obtain rfl : ad509 = ad510 := (by injection e510)
                 replace hx510_0 := (HB.out.cell (World.block_lt_of_cell? w _ hx510_0)).trans hx510_0
                 have HR510_0 := Aside0.mk hi510_0
                 have HC510_0 := Aside0.mk hl510_0
                 clear hi510_0 hl510_0
                 replace p510 := eq_true p510
                 replace q510 := eq_true q510
                 have ea_ := Option.some.inj (hx509_0.symm.trans hx510_0)
                 injection ea_ with ea_ en_ ec_
                 subst ea_
                 subst ec_
                 clear en_
                 have p511 : 0 ≤ (x12_4 : Int) := of_decide_eq_true (by first | (with_reducible assumption) | assumption)
                 have q511 : x12_4 < ((rd_L2 l0 x11_3).length : Int) := of_decide_eq_true (by first | (with_reducible assumption) | assumption)
                 obtain ⟨ad511, e511, hx511_0, hx511_1⟩ := at_T28 HR510_0.out x12_4 p511 q511
                 cases e511
                 replace hx511_0 := (HB.out.cell (World.block_lt_of_cell? w _ hx511_0)).trans hx511_0
                 replace hx511_1 := (HB.out.cell (World.block_lt_of_cell? w _ hx511_1)).trans hx511_1
                 replace p511 := eq_true p511
                 replace q511 := eq_true q511
                 go_wp2_with (first | ((with_reducible refine gate_dst (N := 13) rfl ?_); (try (refine gate_guard (by rfl) ?_; dsimp only)); refine box_event ?hg (N := 13) ?hd (cs := #[.int .i64 0, .int .i64 0]) (t := 28) ?hr ?_; (case hd => rfl); (case hg => rfl); (case hr => first | (go_simp; done) | (go_simp; rfl)); intro gb512 hg w39 hbox hb; have n0_ := Aside0.mk (Kd.R_below (Kd.R_elderB (by (with_reducible repeat (first | apply Kd.R_alloc | apply Kd.R_drewN | apply Kd.R_drew)); exact HO_9.out) gb512 (Nat.le_of_eq hg.symm)) hb); have n1_ := Aside0.mk (Kd.R_below (by (with_reducible repeat (first | apply Kd.R_alloc | apply Kd.R_drewN | apply Kd.R_drew)); exact HO_10.out) hb); have n2_ := Aside0.mk (below_step (by repeat (first | (with_reducible first | exact HB.out | apply below_alloc | apply pw_below_drewN | apply below_drew1) | exact HB.out)) hb); have n3_ := Aside0.mk (hbox); have n4_ := Aside0.mk ((by rw [hg]; exact (below_size (by repeat (first | (with_reducible first | exact HB.out | apply below_alloc | apply pw_below_drewN | apply below_drew1) | exact HB.out))) : w.heap.size ≤ gb512)); have n5_ := Aside0.mk ((by rw [hg]; exact (below_size (by repeat (first | (with_reducible first | exact HB.out | apply below_alloc | apply pw_below_drewN | apply below_drew1) | exact HB.out))) : w.heap.size ≤ gb512)); clear HO_9; clear HO_10; clear HB; have HO_9 := n0_; have HO_10 := n1_; have HB := n2_; have BK512 := n3_; have GW512 := n4_; have GE512 := n5_; clear n0_ n1_ n2_ n3_ n4_ n5_; clear hb hbox hg; have hcz40_0 : w39.cell? ⟨gb512, 0, none⟩ = some (.int .i64 0) := (blk_cell BK512.out 0).trans rfl; have hcz40_1 : w39.cell? ⟨gb512, 1, none⟩ = some (.int .i64 0) := (blk_cell BK512.out 1).trans rfl; have hfz40_0 := blk_frozen BK512.out 0; have hfz40_1 := blk_frozen BK512.out 1))
                 go_roundg k4
                 case measure => have := HJ3.out; have := HJ7.out; have := HK3.out; have := HK4.out; omega
                 case rel => exact ⟨(x10_4), (wrap64 (x12_4 + 1)), (by first | rfl | (simp; done) | (simp [*]; done)), H', ⟨by have := HJ3.out; have := HJ7.out; have := HK3.out; have := HK4.out; omega⟩, ⟨by (with_reducible repeat (first | apply Kd.R_alloc | apply Kd.R_drewN | apply Kd.R_drew)); exact Kd.R_mono (Kd.R_far (p := ⟨gb512, 1, none⟩) (Kd.R_far (p := ⟨gb512, 0, none⟩) (Kd.R_mono HO_9.out (fun k_ hk => (⟨hk, hk.2⟩ : _ ∧ k_ ≠ gb512))) (fun _ hk => hk.2) (.int .i64 ((rd_T28 (rd_L2 l0 x11_3) x12_4).f0))) (fun _ hk => hk.2) (.int .i64 ((rd_T28 (rd_L2 l0 x11_3) x12_4).f1))) (fun _ hk => trivial)⟩, ⟨by (with_reducible repeat (first | apply Kd.R_alloc | apply Kd.R_drewN | apply Kd.R_drew)); exact Kd.R_mono (Kd.R_far (p := ⟨gb512, 1, none⟩) (Kd.R_far (p := ⟨gb512, 0, none⟩) (Kd.R_types HO_10.out BK512.out (by decide)) (fun _ hk => hk.2) (.int .i64 ((rd_T28 (rd_L2 l0 x11_3) x12_4).f0))) (fun _ hk => hk.2) (.int .i64 ((rd_T28 (rd_L2 l0 x11_3) x12_4).f1))) (fun _ hk => trivial)⟩, ⟨by repeat (first | (with_reducible first | exact HB.out | apply below_alloc | apply pw_below_drewN | apply below_drew1 | refine below_set ?_ GE512.out) | exact HB.out)⟩⟩
               ·rw [if_neg c21] at H
                exact absurd H (by simp)
              ·rw [if_neg c20] at H
               have c20b0 : decide (x12_4 < ((rd_L2 l0 x11_3).length : Int)) = false := decide_eq_false c20
               clear c20
               have H' := Aside0.mk H
               clear H
               have p509 : 0 ≤ (x11_3 : Int) := of_decide_eq_true (by first | (with_reducible assumption) | assumption)
               have q509 : x11_3 < (l0.length : Int) := of_decide_eq_true (by first | (with_reducible assumption) | assumption)
               obtain ⟨ad509, A509_0, c509_0, e509, hx509_0, hl509_0, hi509_0⟩ := at_L2 HR0.out x11_3 p509 q509
               cases e509
               replace hx509_0 := (HB.out.cell (World.block_lt_of_cell? w _ hx509_0)).trans hx509_0
               have HR509_0 := Aside0.mk hi509_0
               have HC509_0 := Aside0.mk hl509_0
               clear hi509_0 hl509_0
               replace p509 := eq_true p509
               replace q509 := eq_true q509
               go_wp2
               go_roundg k4
               case measure => have := HJ3.out; have := HJ7.out; have := HK3.out; have := HK4.out; omega
               case rel => exact ⟨(x10_4), (wrap64 (x11_3 + 1)), (by first | rfl | (simp; done) | (simp [*]; done)), H', ⟨by have := HJ3.out; have := HJ7.out; have := HK3.out; have := HK4.out; omega⟩, ⟨by (with_reducible repeat (first | apply Kd.R_alloc | apply Kd.R_drewN | apply Kd.R_drew)); exact HO_9.out⟩, ⟨by (with_reducible repeat (first | apply Kd.R_alloc | apply Kd.R_drewN | apply Kd.R_drew)); exact HO_10.out⟩, ⟨by repeat (first | (with_reducible first | exact HB.out | apply below_alloc | apply pw_below_drewN | apply below_drew1) | exact HB.out)⟩⟩
             ·rw [if_neg c19] at H
              exact absurd H (by simp)
            ·rw [if_neg c18] at H
             exact absurd H (by simp)
         ·rw [if_neg c17] at H
          have c17b0 : decide (x11_3 < (l0.length : Int)) = false := decide_eq_false c17
          clear c17
          obtain ⟨y519, hy519⟩ : ∃ y_ : List Int, y_ = (([] : List Int)) := ⟨_, rfl⟩
          replace H : (if y519.length + l2.length < 17592186044416 then (postbaglaw4_SpanMeans.l3 k3 l0 t500 x10_3 (y519 ++ l2) 0) else (none)) = some r := by first | (rw [hy519]; with_reducible exact H) | (have H2_ := (Option.bind_some _ _).symm.trans H; rw [hy519]; with_reducible exact H2_) | (have H2_ := (Option.bind_some _ _).symm.trans H; with_reducible exact H2_) | with_reducible exact H | (rw [hy519]; exact H) | exact H
          have Ny519 := Aside0.mk hy519
          clear hy519
          by_cases c41 : y519.length + l2.length < 17592186044416
          ·rw [if_pos c41] at H
           have LMc41 := Aside0.mk c41
           clear c41
           obtain ⟨y522, hy522⟩ : ∃ y_ : List Int, y_ = (y519 ++ l2) := ⟨_, rfl⟩
           replace H : (postbaglaw4_SpanMeans.l3 k3 l0 t500 x10_3 y522 0) = some r := by first | (rw [hy522]; with_reducible exact H) | (have H2_ := (Option.bind_some _ _).symm.trans H; rw [hy522]; with_reducible exact H2_) | (have H2_ := (Option.bind_some _ _).symm.trans H; with_reducible exact H2_) | with_reducible exact H | (rw [hy522]; exact H) | exact H
           have Ny522 := Aside0.mk hy522
           clear hy522
           have HC42 := Aside0.mk H
           clear H
           go_upto_block 6 with (first | ((with_reducible refine gate_dst (N := 114) rfl ?_); (try (refine gate_guard (by rfl) ?_; dsimp only)); refine Kd.R_lit (Kd.int .i64) _ 3 ?hg (N := 114) ?hd (xs := ([] : List Int)) (inner := []) (ok := fun _ => True) (okp := fun _ => True) ?hr ?hp (fun _ hk => hk) trivial (Below.refl _ _) (Nat.le_refl _) (by simp) ?_; (case hd => rfl); (case hg => rfl); (case hr => first | (go_simp; done) | (go_simp; rfl)); (case hp => exact (Reps.none _ _)); intro v520 w43 ho44 hb hg_ hnew_; clear hg_ hnew_; (first | rw [← Ny519.out] at ho44 | (simp only [Int.reduceToNat] at ho44; rw [← Ny519.out] at ho44)); have n0_ := Aside0.mk (Kd.R_below (by (with_reducible repeat (first | apply Kd.R_alloc | apply Kd.R_drewN | apply Kd.R_drew)); exact HO_9.out) hb); have n1_ := Aside0.mk (Kd.R_elder' (by (with_reducible repeat (first | apply Kd.R_alloc | apply Kd.R_drewN | apply Kd.R_drew)); exact HO_10.out) (Kd.R_base ho44) hb); have n2_ := Aside0.mk (Kd.R_lower (Kd.R_new' ho44 (Kd.R_lt (by (with_reducible repeat (first | apply Kd.R_alloc | apply Kd.R_drewN | apply Kd.R_drew)); exact HO_10.out))) (below_size (by repeat (first | (with_reducible first | exact HB.out | apply below_alloc | apply pw_below_drewN | apply below_drew1) | exact HB.out)))); have n3_ := Aside0.mk (below_step (by repeat (first | (with_reducible first | exact HB.out | apply below_alloc | apply pw_below_drewN | apply below_drew1) | exact HB.out)) hb); clear HO_9; clear HO_10; clear HB; have HO_9 := n0_; have HO_10 := n1_; have HO521 := n2_; have HB := n3_; clear n0_ n1_ n2_ n3_; clear hb ho44) | ((with_reducible refine gate_builtin (b := .append) (xs := #[.tmp 114, .tmp 115]) rfl ?_); (try (refine gate_guard (by rfl) ?_; dsimp only)); at_builtin; refine Kd.R_append_rows (Kd.int .i64) (w0 := w) w.heap.size rfl (.tmp 114) (.tmp 115) 22 3 (.int .i64 0) 8 rfl Tryd.underlying22 info3 rfl (by decide) (by omega) v520 y519 l2 _ _ _ (fun k_ => some k_ ≠ (u10 : Value).ownBlock) (fun _ => False) rfl rfl ?aO ?aR (fun _ _ h => h) (fun _ h => h.elim) ?aF ?aB ?aS ?aL ?_; (case aR => repeat (first | exact (Kd.C_below HR2.out HB.out) | (with_reducible refine Kd.C_alloc ?_ _) | (with_reducible refine Kd.C_drewN ?_ _) | (with_reducible refine Kd.C_drew ?_))); (case aB => exact (by repeat (first | (with_reducible first | exact HB.out | apply below_alloc | apply pw_below_drewN | apply below_drew1) | exact HB.out))); (case aF => exact (fun k_ hk => Kd.fresh' (Kd.R_lt (by (with_reducible repeat (first | apply Kd.R_alloc | apply Kd.R_drewN | apply Kd.R_drew)); exact HO_10.out)) k_ hk)); (case aO => exact (by (with_reducible repeat (first | apply Kd.R_alloc | apply Kd.R_drewN | apply Kd.R_drew)); exact Kd.R_mono HO521.out (fun _ hk => hk.2))); (case aS => exact (below_size (by repeat (first | (with_reducible first | exact HB.out | apply below_alloc | apply pw_below_drewN | apply below_drew1) | exact HB.out)))); (case aL => have := LMc41.out; omega); intro v523 w45 ho hb hg hat; rw [← Ny522.out] at ho; have n0_ := Aside0.mk (Kd.R_over' (by (with_reducible repeat (first | apply Kd.R_alloc | apply Kd.R_drewN | apply Kd.R_drew)); exact HO_9.out) (Kd.R_typed (by (with_reducible repeat (first | apply Kd.R_alloc | apply Kd.R_drewN | apply Kd.R_drew)); exact HO521.out)) (by decide) hg); have n1_ := Aside0.mk (Kd.R_after (ok := (fun _ => True)) (by (with_reducible repeat (first | apply Kd.R_alloc | apply Kd.R_drewN | apply Kd.R_drew)); exact HO_10.out) hg hat); have n2_ := Aside0.mk (hb); have n3_ := Aside0.mk (ho); clear HO_9; clear HO_10; clear HB; clear HO521; have HO_9 := n0_; have HO_10 := n1_; have HB := n2_; have HO524 := n3_; clear n0_ n1_ n2_ n3_; clear ho hb hg hat))
           (try simp only [Act.put, s1_, s2_, s3_])
           go_cut [14] (fun v14 wc => ∃ (kq : Nat) (x14_41 : List Int), Aside0 (postbaglaw4_SpanMeans.j6 kq l0 t500 x10_3 x14_41 = some r) ∧ Aside0 (kq ≤ k3) ∧ Aside0 (Kd.R k28 28 wc w.heap.size (fun _ => True) v501 t500) ∧ Aside0 (Kd.R (Kd.int .i64) 3 wc w.heap.size (fun k_ => some k_ ≠ (v14 : Value).ownBlock) u10 x10_3) ∧ Aside0 (Kd.R (Kd.int .i64) 3 wc w.heap.size (fun k_ => some k_ ≠ (u10 : Value).ownBlock) v14 x14_41) ∧ Aside0 (Below w.heap.size w wc))
           case first =>
            have H := HC42.out
            clear HC42
            have H' := Aside0.mk H
            clear H
            go_wp2
            go_loopg [14, 15] k3 (fun kq v14 v15 w' => ∃ (x14_4 : List Int) (x15_4 : Int), v15 = .int .i64 x15_4 ∧ Aside0 (postbaglaw4_SpanMeans.l3 kq l0 t500 x10_3 x14_4 x15_4 = some r) ∧ Aside0 (kq ≤ k3) ∧ Aside0 (Kd.R k28 28 w' w.heap.size (fun _ => True) v501 t500) ∧ Aside0 (Kd.R (Kd.int .i64) 3 w' w.heap.size (fun k_ => some k_ ≠ (v14 : Value).ownBlock) u10 x10_3) ∧ Aside0 (Kd.R (Kd.int .i64) 3 w' w.heap.size (fun k_ => some k_ ≠ (u10 : Value).ownBlock) v14 x14_4) ∧ Aside0 (Below w.heap.size w w'))
            case atStart => exact ⟨(y522), (0), (by first | rfl | (simp; done) | (simp [*]; done)), H', ⟨Nat.le_refl _⟩, ⟨by (with_reducible repeat (first | apply Kd.R_alloc | apply Kd.R_drewN | apply Kd.R_drew)); exact HO_9.out⟩, ⟨by (with_reducible repeat (first | apply Kd.R_alloc | apply Kd.R_drewN | apply Kd.R_drew)); exact Kd.R_mono HO_10.out (fun _ hk => hk.2)⟩, ⟨by (with_reducible repeat (first | apply Kd.R_alloc | apply Kd.R_drewN | apply Kd.R_drew)); exact HO524.out⟩, ⟨by repeat (first | (with_reducible first | exact HB.out | apply below_alloc | apply pw_below_drewN | apply below_drew1) | exact HB.out)⟩⟩
            case round =>
             clear H'
             try clear c1
             try clear c2
             try clear p2
             try clear c4
             try clear p4
             try clear q4
             try clear hx4
             try clear c5
             try clear c5b0
             try clear p5
             try clear q5
             try clear hx5
             try clear c6
             try clear c6b0
             try clear p6
             try clear c7
             try clear c7b0
             try clear c9
             try clear c9b0
             try clear c10
             try clear c12
             try clear c13
             try clear c17
             try clear c17b0
             try clear c18
             try clear c18b0
             try clear c19
             try clear c19b0
             try clear c20
             try clear c20b0
             try clear c21
             try clear c21b0
             try clear c22
             try clear c22b0
             try clear c23
             try clear c23b0
             try clear c24
             try clear c24b0
             try clear c25
             try clear c25b0
             try clear c26
             try clear c41
             try clear hcz28_0
             try clear hcz28_1
             try clear hcz34_0
             try clear hcz34_1
             try clear hcz36_0
             try clear hcz36_1
             try clear hcz38_0
             try clear hcz38_1
             try clear hcz40_0
             try clear hcz40_1
             try clear hfz28_0
             try clear hfz28_1
             try clear hfz34_0
             try clear hfz34_1
             try clear hfz36_0
             try clear hfz36_1
             try clear hfz38_0
             try clear hfz38_1
             try clear hfz40_0
             try clear hfz40_1
             try clear hx499_0
             try clear hx509_0
             try clear hx510_0
             try clear hx511_0
             try clear hx511_1
             try clear p2
             try clear p4
             try clear p499
             try clear p509
             try clear p510
             try clear p511
             try clear p6
             try clear q4
             try clear q499
             try clear q509
             try clear q510
             try clear q511
             obtain ⟨x14_4, x15_4, rfl, HA, HK4, HO_9, HO_10, HO_14, HB⟩ := hrel
             cases gk with
             | zero => exact absurd HA.out (by simp [postbaglaw4_SpanMeans.l3])
             | succ k4 =>
              have H := HA.out
              clear HA
              simp only [postbaglaw4_SpanMeans.l3] at H
              by_cases c46 : x15_4 < (x10_3.length : Int)
              ·rw [if_pos c46] at H
               have c46b0 : decide (x15_4 < (x10_3.length : Int)) = true := decide_eq_true c46
               clear c46
               (first | rw [c46b0] | (simp only [i64_w, i32_w]; rw [c46b0]) | skip)
               by_cases c47 : (x14_4.length : Int) < 16
               ·rw [if_pos c47] at H
                have c47b0 : decide ((x14_4.length : Int) < 16) = true := decide_eq_true c47
                have c47b1 : decide (x14_4.length < 16) = true := decide_eq_true (by omega)
                clear c47
                by_cases c48 : 0 ≤ x15_4
                ·rw [if_pos c48] at H
                 have c48b0 : decide (0 ≤ x15_4) = true := decide_eq_true c48
                 clear c48
                 by_cases c49 : x14_4.length < 17592186044416
                 ·rw [if_pos c49] at H
                  have LMc49 := Aside0.mk c49
                  clear c49
                  obtain ⟨y526, hy526⟩ : ∃ y_ : List Int, y_ = (x14_4 ++ [rd x10_3 x15_4]) := ⟨_, rfl⟩
                  replace H : (postbaglaw4_SpanMeans.l3 k4 l0 t500 x10_3 y526 (wrap64 (x15_4 + 1))) = some r := by first | (rw [hy526]; with_reducible exact H) | (have H2_ := (Option.bind_some _ _).symm.trans H; rw [hy526]; with_reducible exact H2_) | (have H2_ := (Option.bind_some _ _).symm.trans H; with_reducible exact H2_) | with_reducible exact H | (rw [hy526]; exact H) | exact H
                  have Ny526 := Aside0.mk hy526
                  clear hy526
                  have H' := Aside0.mk H
                  clear H
                  obtain ⟨Ao50, co50, eo50⟩ := Kd.R_slice HO_10.out
                  subst eo50
                  obtain ⟨Ao51, co51, eo51⟩ := Kd.R_slice HO_14.out
                  subst eo51
                  have p525 : 0 ≤ (x15_4 : Int) := of_decide_eq_true (by first | (with_reducible assumption) | assumption)
                  have q525 : x15_4 < (x10_3.length : Int) := of_decide_eq_true (by first | (with_reducible assumption) | assumption)
                  obtain ⟨ad525, e525, hx525_0⟩ := Kd.at_int (Kd.R_reads' HO_10.out).2.2 x15_4 p525 q525
                  cases e525
                  replace p525 := eq_true p525
                  replace q525 := eq_true q525
                  go_wp2_with (first | ((with_reducible refine gate_builtin (b := .append) (xs := #[.tmp 128, .tmp 133]) rfl ?_); (try (refine gate_guard (by rfl) ?_; dsimp only)); at_builtin; refine Kd.R_append (Kd.int .i64) (w0 := w) w.heap.size rfl (.tmp 128) (.tmp 133) 22 3 (.int .i64 0) 8 rfl Tryd.underlying22 info3 rfl (by decide) (by omega) (.slice Ao51 x14_4.length co51) x14_4 (rd x10_3 x15_4) [.int .i64 (rd x10_3 x15_4)] (fun k_ => some k_ ≠ (.slice (some ad525) x10_3.length co50 : Value).ownBlock) (fun _ => False) rfl rfl ?aP (fun _ hk => hk.elim) ?aF ?aO ?aB ?aS ?aL ?_; (case aP => exact rfl); (case aB => exact (by repeat (first | (with_reducible first | exact HB.out | apply below_alloc | apply pw_below_drewN | apply below_drew1) | exact HB.out))); (case aF => exact (fun k_ hk => Kd.fresh' (Kd.R_lt (by (with_reducible repeat (first | apply Kd.R_alloc | apply Kd.R_drewN | apply Kd.R_drew)); exact HO_10.out)) k_ hk)); (case aO => exact (by (with_reducible repeat (first | apply Kd.R_alloc | apply Kd.R_drewN | apply Kd.R_drew)); exact HO_14.out)); (case aS => exact (below_size (by repeat (first | (with_reducible first | exact HB.out | apply below_alloc | apply pw_below_drewN | apply below_drew1) | exact HB.out)))); (case aL => have := LMc49.out; omega); intro v527 w52 ho hb hg hat; rw [← Ny526.out] at ho; have n0_ := Aside0.mk (Kd.R_over' (by (with_reducible repeat (first | apply Kd.R_alloc | apply Kd.R_drewN | apply Kd.R_drew)); exact HO_9.out) (Kd.R_typed (by (with_reducible repeat (first | apply Kd.R_alloc | apply Kd.R_drewN | apply Kd.R_drew)); exact HO_14.out)) (by decide) hg); have n1_ := Aside0.mk (Kd.R_after (ok := (fun _ => True)) (by (with_reducible repeat (first | apply Kd.R_alloc | apply Kd.R_drewN | apply Kd.R_drew)); exact Kd.R_mono HO_10.out (fun _ hk => ⟨trivial, hk⟩)) hg hat); have n2_ := Aside0.mk (hb); have n3_ := Aside0.mk (ho); clear HO_9; clear HO_10; clear HB; clear HO_14; have HO_9 := n0_; have HO_10 := n1_; have HB := n2_; have HO528 := n3_; clear n0_ n1_ n2_ n3_; clear ho hb hg hat))
                  go_roundg k4
                  case measure => have := HJ3.out; have := HJ7.out; have := HK3.out; have := HK4.out; omega
                  case rel => exact ⟨(y526), (wrap64 (x15_4 + 1)), (by first | rfl | (simp; done) | (simp [*]; done)), H', ⟨by have := HJ3.out; have := HJ7.out; have := HK3.out; have := HK4.out; omega⟩, ⟨by (with_reducible repeat (first | apply Kd.R_alloc | apply Kd.R_drewN | apply Kd.R_drew)); exact HO_9.out⟩, ⟨by (with_reducible repeat (first | apply Kd.R_alloc | apply Kd.R_drewN | apply Kd.R_drew)); exact Kd.R_mono HO_10.out (fun _ hk => hk.2)⟩, ⟨by (with_reducible repeat (first | apply Kd.R_alloc | apply Kd.R_drewN | apply Kd.R_drew)); exact HO528.out⟩, ⟨by repeat (first | (with_reducible first | exact HB.out | apply below_alloc | apply pw_below_drewN | apply below_drew1) | exact HB.out)⟩⟩
                 ·rw [if_neg c49] at H
                  exact absurd H (by simp)
                ·rw [if_neg c48] at H
                 exact absurd H (by simp)
               ·rw [if_neg c47] at H
                have c47b0 : decide ((x14_4.length : Int) < 16) = false := decide_eq_false c47
                have c47b1 : decide (x14_4.length < 16) = false := decide_eq_false (by omega)
                clear c47
                have H' := Aside0.mk H
                clear H
                obtain ⟨Ao53, co53, eo53⟩ := Kd.R_slice HO_10.out
                subst eo53
                obtain ⟨Ao54, co54, eo54⟩ := Kd.R_slice HO_14.out
                subst eo54
                go_wp2
                go_meet
                case rel => exact ⟨_, (x14_4), H', ⟨by have := HJ3.out; have := HJ7.out; have := HK3.out; have := HK4.out; first | omega | exact Nat.le_refl _⟩, ⟨by (with_reducible repeat (first | apply Kd.R_alloc | apply Kd.R_drewN | apply Kd.R_drew)); exact HO_9.out⟩, ⟨by (with_reducible repeat (first | apply Kd.R_alloc | apply Kd.R_drewN | apply Kd.R_drew)); exact HO_10.out⟩, ⟨by (with_reducible repeat (first | apply Kd.R_alloc | apply Kd.R_drewN | apply Kd.R_drew)); exact HO_14.out⟩, ⟨by repeat (first | (with_reducible first | exact HB.out | apply below_alloc | apply pw_below_drewN | apply below_drew1) | exact HB.out)⟩⟩
              ·rw [if_neg c46] at H
               have c46b0 : decide (x15_4 < (x10_3.length : Int)) = false := decide_eq_false c46
               clear c46
               (first | rw [c46b0] | (simp only [i64_w, i32_w]; rw [c46b0]) | skip)
               have H' := Aside0.mk H
               clear H
               obtain ⟨Ao55, co55, eo55⟩ := Kd.R_slice HO_10.out
               subst eo55
               go_wp2
               go_meet
               case rel => exact ⟨_, (x14_4), H', ⟨by have := HJ3.out; have := HJ7.out; have := HK3.out; have := HK4.out; first | omega | exact Nat.le_refl _⟩, ⟨by (with_reducible repeat (first | apply Kd.R_alloc | apply Kd.R_drewN | apply Kd.R_drew)); exact HO_9.out⟩, ⟨by (with_reducible repeat (first | apply Kd.R_alloc | apply Kd.R_drewN | apply Kd.R_drew)); exact HO_10.out⟩, ⟨by (with_reducible repeat (first | apply Kd.R_alloc | apply Kd.R_drewN | apply Kd.R_drew)); exact HO_14.out⟩, ⟨by repeat (first | (with_reducible first | exact HB.out | apply below_alloc | apply pw_below_drewN | apply below_drew1) | exact HB.out)⟩⟩
           case rest =>
            clear HC42
            try clear c1
            try clear c2
            try clear p2
            try clear c4
            try clear p4
            try clear q4
            try clear hx4
            try clear c5
            try clear c5b0
            try clear p5
            try clear q5
            try clear hx5
            try clear c6
            try clear c6b0
            try clear p6
            try clear c7
            try clear c7b0
            try clear c9
            try clear c9b0
            try clear c10
            try clear c12
            try clear c13
            try clear c17
            try clear c17b0
            try clear c18
            try clear c18b0
            try clear c19
            try clear c19b0
            try clear c20
            try clear c20b0
            try clear c21
            try clear c21b0
            try clear c22
            try clear c22b0
            try clear c23
            try clear c23b0
            try clear c24
            try clear c24b0
            try clear c25
            try clear c25b0
            try clear c26
            try clear c41
            try clear c46
            try clear c46b0
            try clear c47
            try clear c47b0
            try clear c47b1
            try clear c48
            try clear c48b0
            try clear c49
            try clear p49
            try clear q49
            try clear hx49
            try clear c50
            try clear p50
            try clear q50
            try clear hx50
            try clear c51
            try clear p51
            try clear q51
            try clear hx51
            try clear p52
            try clear q52
            try clear hx52
            try clear hcz28_0
            try clear hcz28_1
            try clear hcz34_0
            try clear hcz34_1
            try clear hcz36_0
            try clear hcz36_1
            try clear hcz38_0
            try clear hcz38_1
            try clear hcz40_0
            try clear hcz40_1
            try clear hfz28_0
            try clear hfz28_1
            try clear hfz34_0
            try clear hfz34_1
            try clear hfz36_0
            try clear hfz36_1
            try clear hfz38_0
            try clear hfz38_1
            try clear hfz40_0
            try clear hfz40_1
            try clear hx499_0
            try clear hx509_0
            try clear hx510_0
            try clear hx511_0
            try clear hx511_1
            try clear hx525_0
            try clear p2
            try clear p4
            try clear p499
            try clear p5
            try clear p509
            try clear p510
            try clear p511
            try clear p525
            try clear p6
            try clear q4
            try clear q499
            try clear q5
            try clear q509
            try clear q510
            try clear q511
            try clear q525
            obtain ⟨kq, x14_41, HA, HJ41, HO_9, HO_10, HO_14, HB⟩ := hcut
            cases kq with
            | zero => exact absurd HA.out (by simp [postbaglaw4_SpanMeans.j6])
            | succ kj41 =>
             have H := HA.out
             clear HA
             simp only [postbaglaw4_SpanMeans.j6] at H
             have H' := Aside0.mk H
             clear H
             go_wp2
             go_loopg [16] kj41 (fun kq v16 w' => ∃ (x16_5 : Int), v16 = .int .i64 x16_5 ∧ Aside0 (postbaglaw4_SpanMeans.l4 kq l0 t500 x10_3 x14_41 x16_5 = some r) ∧ Aside0 (kq ≤ kj41) ∧ Aside0 (Kd.R k28 28 w' w.heap.size (fun _ => True) v501 t500) ∧ Aside0 (Kd.R (Kd.int .i64) 3 w' w.heap.size (fun k_ => some k_ ≠ (u14 : Value).ownBlock) u10 x10_3) ∧ Aside0 (Kd.R (Kd.int .i64) 3 w' w.heap.size (fun k_ => some k_ ≠ (u10 : Value).ownBlock) u14 x14_41) ∧ Aside0 (Below w.heap.size w w'))
             case atStart => exact ⟨(0), (by first | rfl | (simp; done) | (simp [*]; done)), H', ⟨Nat.le_refl _⟩, ⟨by (with_reducible repeat (first | apply Kd.R_alloc | apply Kd.R_drewN | apply Kd.R_drew)); exact HO_9.out⟩, ⟨by (with_reducible repeat (first | apply Kd.R_alloc | apply Kd.R_drewN | apply Kd.R_drew)); exact HO_10.out⟩, ⟨by (with_reducible repeat (first | apply Kd.R_alloc | apply Kd.R_drewN | apply Kd.R_drew)); exact HO_14.out⟩, ⟨by repeat (first | (with_reducible first | exact HB.out | apply below_alloc | apply pw_below_drewN | apply below_drew1) | exact HB.out)⟩⟩
             case round =>
              clear H'
              try clear c1
              try clear c2
              try clear p2
              try clear c4
              try clear p4
              try clear q4
              try clear hx4
              try clear c5
              try clear c5b0
              try clear p5
              try clear q5
              try clear hx5
              try clear c6
              try clear c6b0
              try clear p6
              try clear c7
              try clear c7b0
              try clear c9
              try clear c9b0
              try clear c10
              try clear c12
              try clear c13
              try clear c17
              try clear c17b0
              try clear c18
              try clear c18b0
              try clear c19
              try clear c19b0
              try clear c20
              try clear c20b0
              try clear c21
              try clear c21b0
              try clear c22
              try clear c22b0
              try clear c23
              try clear c23b0
              try clear c24
              try clear c24b0
              try clear c25
              try clear c25b0
              try clear c26
              try clear c41
              try clear c46
              try clear c46b0
              try clear c47
              try clear c47b0
              try clear c47b1
              try clear c48
              try clear c48b0
              try clear c49
              try clear p49
              try clear q49
              try clear hx49
              try clear c50
              try clear p50
              try clear q50
              try clear hx50
              try clear c51
              try clear p51
              try clear q51
              try clear hx51
              try clear p52
              try clear q52
              try clear hx52
              try clear hcz28_0
              try clear hcz28_1
              try clear hcz34_0
              try clear hcz34_1
              try clear hcz36_0
              try clear hcz36_1
              try clear hcz38_0
              try clear hcz38_1
              try clear hcz40_0
              try clear hcz40_1
              try clear hfz28_0
              try clear hfz28_1
              try clear hfz34_0
              try clear hfz34_1
              try clear hfz36_0
              try clear hfz36_1
              try clear hfz38_0
              try clear hfz38_1
              try clear hfz40_0
              try clear hfz40_1
              try clear hx499_0
              try clear hx509_0
              try clear hx510_0
              try clear hx511_0
              try clear hx511_1
              try clear hx525_0
              try clear p2
              try clear p4
              try clear p49
              try clear p499
              try clear p5
              try clear p50
              try clear p509
              try clear p51
              try clear p510
              try clear p511
              try clear p52
              try clear p525
              try clear p6
              try clear q4
              try clear q49
              try clear q499
              try clear q5
              try clear q50
              try clear q509
              try clear q51
              try clear q510
              try clear q511
              try clear q52
              try clear q525
              obtain ⟨x16_5, rfl, HA, HK5, HO_9, HO_10, HO_14, HB⟩ := hrel
              cases gk with
              | zero => exact absurd HA.out (by simp [postbaglaw4_SpanMeans.l4])
              | succ k5 =>
               have H := HA.out
               clear HA
               simp only [postbaglaw4_SpanMeans.l4] at H
               by_cases c56 : x16_5 < (x14_41.length : Int)
               ·rw [if_pos c56] at H
                have c56b0 : decide (x16_5 < (x14_41.length : Int)) = true := decide_eq_true c56
                clear c56
                have H' := Aside0.mk H
                clear H
                obtain ⟨Ao57, co57, eo57⟩ := Kd.R_slice HO_14.out
                subst eo57
                go_wp2
                go_loopg [17] k5 (fun kq v17 w' => ∃ (x17_6 : Int), v17 = .int .i64 x17_6 ∧ Aside0 (postbaglaw4_SpanMeans.l5 kq l0 t500 x10_3 x14_41 x16_5 x17_6 = some r) ∧ Aside0 (kq ≤ k5) ∧ Aside0 (Kd.R k28 28 w' w.heap.size (fun _ => True) v501 t500) ∧ Aside0 (Kd.R (Kd.int .i64) 3 w' w.heap.size (fun k_ => some k_ ≠ ((.slice Ao57 x14_41.length co57) : Value).ownBlock) u10 x10_3) ∧ Aside0 (Kd.R (Kd.int .i64) 3 w' w.heap.size (fun k_ => some k_ ≠ (u10 : Value).ownBlock) (.slice Ao57 x14_41.length co57) x14_41) ∧ Aside0 (Below w.heap.size w w'))
                case atStart => exact ⟨(0), (by first | rfl | (simp; done) | (simp [*]; done)), H', ⟨Nat.le_refl _⟩, ⟨by (with_reducible repeat (first | apply Kd.R_alloc | apply Kd.R_drewN | apply Kd.R_drew)); exact HO_9.out⟩, ⟨by (with_reducible repeat (first | apply Kd.R_alloc | apply Kd.R_drewN | apply Kd.R_drew)); exact HO_10.out⟩, ⟨by (with_reducible repeat (first | apply Kd.R_alloc | apply Kd.R_drewN | apply Kd.R_drew)); exact HO_14.out⟩, ⟨by repeat (first | (with_reducible first | exact HB.out | apply below_alloc | apply pw_below_drewN | apply below_drew1) | exact HB.out)⟩⟩
                case round =>
                 clear H'
                 try clear c1
                 try clear c2
                 try clear p2
                 try clear c4
                 try clear p4
                 try clear q4
                 try clear hx4
                 try clear c5
                 try clear c5b0
                 try clear p5
                 try clear q5
                 try clear hx5
                 try clear c6
                 try clear c6b0
                 try clear p6
                 try clear c7
                 try clear c7b0
                 try clear c9
                 try clear c9b0
                 try clear c10
                 try clear c12
                 try clear c13
                 try clear c17
                 try clear c17b0
                 try clear c18
                 try clear c18b0
                 try clear c19
                 try clear c19b0
                 try clear c20
                 try clear c20b0
                 try clear c21
                 try clear c21b0
                 try clear c22
                 try clear c22b0
                 try clear c23
                 try clear c23b0
                 try clear c24
                 try clear c24b0
                 try clear c25
                 try clear c25b0
                 try clear c26
                 try clear c41
                 try clear c46
                 try clear c46b0
                 try clear c47
                 try clear c47b0
                 try clear c47b1
                 try clear c48
                 try clear c48b0
                 try clear c49
                 try clear p49
                 try clear q49
                 try clear hx49
                 try clear c50
                 try clear p50
                 try clear q50
                 try clear hx50
                 try clear c51
                 try clear p51
                 try clear q51
                 try clear hx51
                 try clear p52
                 try clear q52
                 try clear hx52
                 try clear c56
                 try clear c56b0
                 try clear hcz28_0
                 try clear hcz28_1
                 try clear hcz34_0
                 try clear hcz34_1
                 try clear hcz36_0
                 try clear hcz36_1
                 try clear hcz38_0
                 try clear hcz38_1
                 try clear hcz40_0
                 try clear hcz40_1
                 try clear hfz28_0
                 try clear hfz28_1
                 try clear hfz34_0
                 try clear hfz34_1
                 try clear hfz36_0
                 try clear hfz36_1
                 try clear hfz38_0
                 try clear hfz38_1
                 try clear hfz40_0
                 try clear hfz40_1
                 try clear hx499_0
                 try clear hx509_0
                 try clear hx510_0
                 try clear hx511_0
                 try clear hx511_1
                 try clear hx525_0
                 try clear p2
                 try clear p4
                 try clear p49
                 try clear p499
                 try clear p5
                 try clear p50
                 try clear p509
                 try clear p51
                 try clear p510
                 try clear p511
                 try clear p52
                 try clear p525
                 try clear p6
                 try clear q4
                 try clear q49
                 try clear q499
                 try clear q5
                 try clear q50
                 try clear q509
                 try clear q51
                 try clear q510
                 try clear q511
                 try clear q52
                 try clear q525
                 obtain ⟨x17_6, rfl, HA, HK6, HO_9, HO_10, HO_14, HB⟩ := hrel
                 cases gk with
                 | zero => exact absurd HA.out (by simp [postbaglaw4_SpanMeans.l5])
                 | succ k6 =>
                  have H := HA.out
                  clear HA
                  simp only [postbaglaw4_SpanMeans.l5] at H
                  by_cases c58 : x17_6 ≤ (x10_3.length : Int)
                  ·rw [if_pos c58] at H
                   have c58b0 : decide (x17_6 ≤ (x10_3.length : Int)) = true := decide_eq_true c58
                   clear c58
                   by_cases c59 : 0 ≤ x16_5
                   ·rw [if_pos c59] at H
                    have c59b0 : decide (0 ≤ x16_5) = true := decide_eq_true c59
                    clear c59
                    by_cases c60 : x16_5 < (x14_41.length : Int)
                    ·rw [if_pos c60] at H
                     have c60b0 : decide (x16_5 < (x14_41.length : Int)) = true := decide_eq_true c60
                     clear c60
                     have HC61 := Aside0.mk H
                     clear H
                     obtain ⟨Ao62, co62, eo62⟩ := Kd.R_slice HO_10.out
                     subst eo62
                     have p530 : 0 ≤ (x16_5 : Int) := of_decide_eq_true (by first | (with_reducible assumption) | assumption)
                     have q530 : x16_5 < (x14_41.length : Int) := of_decide_eq_true (by first | (with_reducible assumption) | assumption)
                     obtain ⟨ad530, e530, hx530_0⟩ := Kd.at_int (Kd.R_reads' HO_14.out).2.2 x16_5 p530 q530
                     cases e530
                     replace p530 := eq_true p530
                     replace q530 := eq_true q530
                     go_upto_if 154 with (fail)
                     go_cut [18] (fun v18 wc => ∃ (kq : Nat) (x18_60 : Int), v18 = .int .i64 x18_60 ∧ Aside0 (postbaglaw4_SpanMeans.j9 kq l0 t500 x10_3 x14_41 x16_5 x17_6 x18_60 = some r) ∧ Aside0 (kq ≤ k6) ∧ Aside0 (Kd.R k28 28 wc w.heap.size (fun _ => True) v501 t500) ∧ Aside0 (Kd.R (Kd.int .i64) 3 wc w.heap.size (fun k_ => some k_ ≠ ((.slice (some ad530) x14_41.length co57) : Value).ownBlock) (.slice Ao62 x10_3.length co62) x10_3) ∧ Aside0 (Kd.R (Kd.int .i64) 3 wc w.heap.size (fun k_ => some k_ ≠ ((.slice Ao62 x10_3.length co62) : Value).ownBlock) (.slice (some ad530) x14_41.length co57) x14_41) ∧ Aside0 (Below w.heap.size w wc))
                     case first =>
                      have H := HC61.out
                      clear HC61
                      by_cases c63 : x17_6 < (x10_3.length : Int)
                      ·rw [if_pos c63] at H
                       have c63b0 : decide (x17_6 < (x10_3.length : Int)) = true := decide_eq_true c63
                       clear c63
                       (first | rw [c63b0] | (simp only [i64_w, i32_w]; rw [c63b0]) | skip)
                       by_cases c64 : 0 ≤ x17_6
                       ·rw [if_pos c64] at H
                        have c64b0 : decide (0 ≤ x17_6) = true := decide_eq_true c64
                        clear c64
                        have H' := Aside0.mk H
                        clear H
                        have p531 : 0 ≤ (x17_6 : Int) := of_decide_eq_true (by first | (with_reducible assumption) | assumption)
                        have q531 : x17_6 < (x10_3.length : Int) := of_decide_eq_true (by first | (with_reducible assumption) | assumption)
                        obtain ⟨ad531, e531, hx531_0⟩ := Kd.at_int (Kd.R_reads' HO_10.out).2.2 x17_6 p531 q531
                        cases e531
                        replace p531 := eq_true p531
                        replace q531 := eq_true q531
                        go_wp2
                        go_meet
                        case rel => exact ⟨_, (rd x10_3 x17_6), (by first | rfl | (simp; done) | (simp [*]; done)), H', ⟨by have := HJ3.out; have := HJ7.out; have := HK3.out; have := HJ41.out; have := HK5.out; have := HK6.out; first | omega | exact Nat.le_refl _⟩, ⟨by (with_reducible repeat (first | apply Kd.R_alloc | apply Kd.R_drewN | apply Kd.R_drew)); exact HO_9.out⟩, ⟨by (with_reducible repeat (first | apply Kd.R_alloc | apply Kd.R_drewN | apply Kd.R_drew)); exact HO_10.out⟩, ⟨by (with_reducible repeat (first | apply Kd.R_alloc | apply Kd.R_drewN | apply Kd.R_drew)); exact HO_14.out⟩, ⟨by repeat (first | (with_reducible first | exact HB.out | apply below_alloc | apply pw_below_drewN | apply below_drew1) | exact HB.out)⟩⟩
                       ·rw [if_neg c64] at H
                        exact absurd H (by simp)
                      ·rw [if_neg c63] at H
                       have c63b0 : decide (x17_6 < (x10_3.length : Int)) = false := decide_eq_false c63
                       clear c63
                       (first | rw [c63b0] | (simp only [i64_w, i32_w]; rw [c63b0]) | skip)
                       have H' := Aside0.mk H
                       clear H
                       go_wp2
                       go_meet
                       case rel => exact ⟨_, (rd x14_41 x16_5), (by first | rfl | (simp; done) | (simp [*]; done)), H', ⟨by have := HJ3.out; have := HJ7.out; have := HK3.out; have := HJ41.out; have := HK5.out; have := HK6.out; first | omega | exact Nat.le_refl _⟩, ⟨by (with_reducible repeat (first | apply Kd.R_alloc | apply Kd.R_drewN | apply Kd.R_drew)); exact HO_9.out⟩, ⟨by (with_reducible repeat (first | apply Kd.R_alloc | apply Kd.R_drewN | apply Kd.R_drew)); exact HO_10.out⟩, ⟨by (with_reducible repeat (first | apply Kd.R_alloc | apply Kd.R_drewN | apply Kd.R_drew)); exact HO_14.out⟩, ⟨by repeat (first | (with_reducible first | exact HB.out | apply below_alloc | apply pw_below_drewN | apply below_drew1) | exact HB.out)⟩⟩
                     case rest =>
                      clear HC61
                      try clear c1
                      try clear c2
                      try clear p2
                      try clear c4
                      try clear p4
                      try clear q4
                      try clear hx4
                      try clear c5
                      try clear c5b0
                      try clear p5
                      try clear q5
                      try clear hx5
                      try clear c6
                      try clear c6b0
                      try clear p6
                      try clear c7
                      try clear c7b0
                      try clear c9
                      try clear c9b0
                      try clear c10
                      try clear c12
                      try clear c13
                      try clear c17
                      try clear c17b0
                      try clear c18
                      try clear c18b0
                      try clear c19
                      try clear c19b0
                      try clear c20
                      try clear c20b0
                      try clear c21
                      try clear c21b0
                      try clear c22
                      try clear c22b0
                      try clear c23
                      try clear c23b0
                      try clear c24
                      try clear c24b0
                      try clear c25
                      try clear c25b0
                      try clear c26
                      try clear c41
                      try clear c46
                      try clear c46b0
                      try clear c47
                      try clear c47b0
                      try clear c47b1
                      try clear c48
                      try clear c48b0
                      try clear c49
                      try clear p49
                      try clear q49
                      try clear hx49
                      try clear c50
                      try clear p50
                      try clear q50
                      try clear hx50
                      try clear c51
                      try clear p51
                      try clear q51
                      try clear hx51
                      try clear p52
                      try clear q52
                      try clear hx52
                      try clear p53
                      try clear q53
                      try clear hx53
                      try clear c56
                      try clear c56b0
                      try clear c58
                      try clear c58b0
                      try clear c59
                      try clear c59b0
                      try clear c60
                      try clear c60b0
                      try clear c63
                      try clear c63b0
                      try clear c64
                      try clear c64b0
                      try clear p64
                      try clear hcz28_0
                      try clear hcz28_1
                      try clear hcz34_0
                      try clear hcz34_1
                      try clear hcz36_0
                      try clear hcz36_1
                      try clear hcz38_0
                      try clear hcz38_1
                      try clear hcz40_0
                      try clear hcz40_1
                      try clear hfz28_0
                      try clear hfz28_1
                      try clear hfz34_0
                      try clear hfz34_1
                      try clear hfz36_0
                      try clear hfz36_1
                      try clear hfz38_0
                      try clear hfz38_1
                      try clear hfz40_0
                      try clear hfz40_1
                      try clear hx499_0
                      try clear hx509_0
                      try clear hx510_0
                      try clear hx511_0
                      try clear hx511_1
                      try clear hx525_0
                      try clear hx530_0
                      try clear hx531_0
                      try clear p2
                      try clear p4
                      try clear p49
                      try clear p499
                      try clear p5
                      try clear p50
                      try clear p509
                      try clear p51
                      try clear p510
                      try clear p511
                      try clear p52
                      try clear p525
                      try clear p530
                      try clear p531
                      try clear p6
                      try clear q4
                      try clear q49
                      try clear q499
                      try clear q5
                      try clear q50
                      try clear q509
                      try clear q51
                      try clear q510
                      try clear q511
                      try clear q52
                      try clear q525
                      try clear q530
                      try clear q531
                      obtain ⟨kq, x18_60, rfl, HA, HJ60, HO_9, HO_10, HO_14, HB⟩ := hcut
                      cases kq with
                      | zero => exact absurd HA.out (by simp [postbaglaw4_SpanMeans.j9])
                      | succ kj60 =>
                       have H := HA.out
                       clear HA
                       simp only [postbaglaw4_SpanMeans.j9] at H
                       have H' := Aside0.mk H
                       clear H
                       go_wp2
                       go_loopg [19, 20] kj60 (fun kq v19 v20 w' => ∃ (x19_8 : Bool) (x20_8 : Int), v19 = .bool x19_8 ∧ v20 = .int .i64 x20_8 ∧ Aside0 (postbaglaw4_SpanMeans.l6 kq l0 t500 x10_3 x14_41 x16_5 x17_6 x18_60 x19_8 x20_8 = some r) ∧ Aside0 (kq ≤ kj60) ∧ Aside0 (Kd.R k28 28 w' w.heap.size (fun _ => True) v501 t500) ∧ Aside0 (Kd.R (Kd.int .i64) 3 w' w.heap.size (fun k_ => some k_ ≠ ((.slice (some ad530) x14_41.length co57) : Value).ownBlock) (.slice Ao62 x10_3.length co62) x10_3) ∧ Aside0 (Kd.R (Kd.int .i64) 3 w' w.heap.size (fun k_ => some k_ ≠ ((.slice Ao62 x10_3.length co62) : Value).ownBlock) (.slice (some ad530) x14_41.length co57) x14_41) ∧ Aside0 (Below w.heap.size w w'))
                       case atStart => exact ⟨(false), (0), (by first | rfl | (simp; done) | (simp [*]; done)), (by first | rfl | (simp; done) | (simp [*]; done)), H', ⟨Nat.le_refl _⟩, ⟨by (with_reducible repeat (first | apply Kd.R_alloc | apply Kd.R_drewN | apply Kd.R_drew)); exact HO_9.out⟩, ⟨by (with_reducible repeat (first | apply Kd.R_alloc | apply Kd.R_drewN | apply Kd.R_drew)); exact HO_10.out⟩, ⟨by (with_reducible repeat (first | apply Kd.R_alloc | apply Kd.R_drewN | apply Kd.R_drew)); exact HO_14.out⟩, ⟨by repeat (first | (with_reducible first | exact HB.out | apply below_alloc | apply pw_below_drewN | apply below_drew1) | exact HB.out)⟩⟩
                       case round =>
                        clear H'
                        try clear c1
                        try clear c2
                        try clear p2
                        try clear c4
                        try clear p4
                        try clear q4
                        try clear hx4
                        try clear c5
                        try clear c5b0
                        try clear p5
                        try clear q5
                        try clear hx5
                        try clear c6
                        try clear c6b0
                        try clear p6
                        try clear c7
                        try clear c7b0
                        try clear c9
                        try clear c9b0
                        try clear c10
                        try clear c12
                        try clear c13
                        try clear c17
                        try clear c17b0
                        try clear c18
                        try clear c18b0
                        try clear c19
                        try clear c19b0
                        try clear c20
                        try clear c20b0
                        try clear c21
                        try clear c21b0
                        try clear c22
                        try clear c22b0
                        try clear c23
                        try clear c23b0
                        try clear c24
                        try clear c24b0
                        try clear c25
                        try clear c25b0
                        try clear c26
                        try clear c41
                        try clear c46
                        try clear c46b0
                        try clear c47
                        try clear c47b0
                        try clear c47b1
                        try clear c48
                        try clear c48b0
                        try clear c49
                        try clear p49
                        try clear q49
                        try clear hx49
                        try clear c50
                        try clear p50
                        try clear q50
                        try clear hx50
                        try clear c51
                        try clear p51
                        try clear q51
                        try clear hx51
                        try clear p52
                        try clear q52
                        try clear hx52
                        try clear p53
                        try clear q53
                        try clear hx53
                        try clear c56
                        try clear c56b0
                        try clear c58
                        try clear c58b0
                        try clear c59
                        try clear c59b0
                        try clear c60
                        try clear c60b0
                        try clear c63
                        try clear c63b0
                        try clear c64
                        try clear c64b0
                        try clear p64
                        try clear hcz28_0
                        try clear hcz28_1
                        try clear hcz34_0
                        try clear hcz34_1
                        try clear hcz36_0
                        try clear hcz36_1
                        try clear hcz38_0
                        try clear hcz38_1
                        try clear hcz40_0
                        try clear hcz40_1
                        try clear hfz28_0
                        try clear hfz28_1
                        try clear hfz34_0
                        try clear hfz34_1
                        try clear hfz36_0
                        try clear hfz36_1
                        try clear hfz38_0
                        try clear hfz38_1
                        try clear hfz40_0
                        try clear hfz40_1
                        try clear hx499_0
                        try clear hx509_0
                        try clear hx510_0
                        try clear hx511_0
                        try clear hx511_1
                        try clear hx525_0
                        try clear hx530_0
                        try clear hx531_0
                        try clear p2
                        try clear p4
                        try clear p49
                        try clear p499
                        try clear p5
                        try clear p50
                        try clear p509
                        try clear p51
                        try clear p510
                        try clear p511
                        try clear p52
                        try clear p525
                        try clear p53
                        try clear p530
                        try clear p531
                        try clear p6
                        try clear p64
                        try clear q4
                        try clear q49
                        try clear q499
                        try clear q5
                        try clear q50
                        try clear q509
                        try clear q51
                        try clear q510
                        try clear q511
                        try clear q52
                        try clear q525
                        try clear q53
                        try clear q530
                        try clear q531
                        obtain ⟨x19_8, x20_8, rfl, rfl, HA, HK8, HO_9, HO_10, HO_14, HB⟩ := hrel
                        cases gk with
                        | zero => exact absurd HA.out (by simp [postbaglaw4_SpanMeans.l6])
                        | succ k8 =>
                         have H := HA.out
                         clear HA
                         simp only [postbaglaw4_SpanMeans.l6] at H
                         by_cases c65 : x20_8 < (l0.length : Int)
                         ·rw [if_pos c65] at H
                          have c65b0 : decide (x20_8 < (l0.length : Int)) = true := decide_eq_true c65
                          clear c65
                          by_cases c66 : x19_8 = true
                          ·subst c66
                           have H1 : (postbaglaw4_SpanMeans.l6 k8 l0 t500 x10_3 x14_41 x16_5 x17_6 x18_60 true (wrap64 (x20_8 + 1))) = some r := by rw [if_pos rfl] at H; exact H
                           clear H
                           have H := H1
                           clear H1
                           have H' := Aside0.mk H
                           clear H
                           try go_wp2
                           have n0_ := Aside0.mk (Kd.R_drew HO_9.out)
                           have n1_ := Aside0.mk (Kd.R_drew HO_10.out)
                           have n2_ := Aside0.mk (Kd.R_drew HO_14.out)
                           have n3_ := Aside0.mk (below_drew1 HB.out)
                           clear HO_9
                           clear HO_10
                           clear HO_14
                           clear HB
                           have HO_9 := n0_
                           have HO_10 := n1_
                           have HO_14 := n2_
                           have HB := n3_
                           clear n0_ n1_ n2_ n3_
                           refine start_ (n := 14) (S := fun w' => True) (ds := []) (bs_ 0 14) (by kernel_rfl) rfl rfl trivial (fun hHeld => ?_); refine with_tabW postbaglaw4_SpanMeans.tab37 postbaglaw4_SpanMeans.bits37 (fun HT_ HW_ => ?_)
                           generalize wr.drew = w67 at HO_9 HO_10 HO_14 HB hHeld ⊢
                           refine pu_ 0 (some 165) ?_ (bs_ 1 13) rfl rfl (any_of HT_.out (by kernel_rfl)) (fun _ _ _ h => h) (y_ (by rfl) ?_) ?_ ?_ ?_
                           rotate_left
                           ·intro w'
                            go_simp
                            with_reducible rfl
                           rotate_left
                           ·simp only [Act.put, s1_, s2_, s3_, i64_w, i32_w]
                            rfl
                           refine pu_ 1 (some 166) ?_ (bs_ 2 12) rfl rfl (any_of HT_.out (by kernel_rfl)) (fun _ _ _ h => h) (y_ (by rfl) ?_) ?_ ?_ ?_
                           rotate_left
                           ·intro w'
                            go_simp
                            with_reducible rfl
                           rotate_left
                           ·simp only [Act.put, s1_, s2_, s3_, i64_w, i32_w]
                            rfl
                           refine pu_ 2 (some 167) undef (bs_ 3 11) rfl rfl (any_of HT_.out (by kernel_rfl)) (fun _ _ _ h => h) (n_ (by rfl)) ?_ ?_ ?_
                           rotate_left
                           ·simp only [Act.put, s1_, s2_, s3_, i64_w, i32_w]
                            rfl
                           refine pu_ 3 (some 168) undef (bs_ 4 10) rfl rfl (any_of HT_.out (by kernel_rfl)) (fun _ _ _ h => h) (n_ (by rfl)) ?_ ?_ ?_
                           rotate_left
                           ·simp only [Act.put, s1_, s2_, s3_, i64_w, i32_w]
                            rfl
                           refine pu_ 4 (some 169) undef (bs_ 5 9) rfl rfl (any_of HT_.out (by kernel_rfl)) (fun _ _ _ h => h) (n_ (by rfl)) ?_ ?_ ?_
                           rotate_left
                           ·simp only [Act.put, s1_, s2_, s3_, i64_w, i32_w]
                            rfl
                           refine pu_ 5 (some 170) undef (bs_ 6 8) rfl rfl (any_of HT_.out (by kernel_rfl)) (fun _ _ _ h => h) (n_ (by rfl)) ?_ ?_ ?_
                           rotate_left
                           ·simp only [Act.put, s1_, s2_, s3_, i64_w, i32_w]
                            rfl
                           refine pu_ 6 (some 171) undef (bs_ 7 7) rfl rfl (any_of HT_.out (by kernel_rfl)) (fun _ _ _ h => h) (n_ (by rfl)) ?_ ?_ ?_
                           rotate_left
                           ·simp only [Act.put, s1_, s2_, s3_, i64_w, i32_w]
                            rfl
                           refine pu_ 7 (some 172) undef (bs_ 8 6) rfl rfl (any_of HT_.out (by kernel_rfl)) (fun _ _ _ h => h) (n_ (by rfl)) ?_ ?_ ?_
                           rotate_left
                           ·simp only [Act.put, s1_, s2_, s3_, i64_w, i32_w]
                            rfl
                           refine pu_ 8 (some 173) undef (bs_ 9 5) rfl rfl (any_of HT_.out (by kernel_rfl)) (fun _ _ _ h => h) (n_ (by rfl)) ?_ ?_ ?_
                           rotate_left
                           ·simp only [Act.put, s1_, s2_, s3_, i64_w, i32_w]
                            rfl
                           refine pu_ 9 (some 174) undef (bs_ 10 4) rfl rfl (any_of HT_.out (by kernel_rfl)) (fun _ _ _ h => h) (n_ (by rfl)) ?_ ?_ ?_
                           rotate_left
                           ·simp only [Act.put, s1_, s2_, s3_, i64_w, i32_w]
                            rfl
                           refine pu_ 10 (some 175) undef (bs_ 11 3) rfl rfl (any_of HT_.out (by kernel_rfl)) (fun _ _ _ h => h) (n_ (by rfl)) ?_ ?_ ?_
                           rotate_left
                           ·simp only [Act.put, s1_, s2_, s3_, i64_w, i32_w]
                            rfl
                           refine pu_ 11 (some 176) undef (bs_ 12 2) rfl rfl (any_of HT_.out (by kernel_rfl)) (fun _ _ _ h => h) (n_ (by rfl)) ?_ ?_ ?_
                           rotate_left
                           ·simp only [Act.put, s1_, s2_, s3_, i64_w, i32_w]
                            rfl
                           refine pu_ 12 (some 177) ?_ (bs_ 13 1) rfl rfl (any_of HT_.out (by kernel_rfl)) (fun _ _ _ h => h) (y_ (by rfl) ?_) ?_ ?_ ?_
                           rotate_left
                           ·intro w'
                            go_simp
                            with_reducible rfl
                           rotate_left
                           ·simp only [Act.put, s1_, s2_, s3_, i64_w, i32_w]
                            rfl
                           refine pu_ 13 (some 19) ?_ (bs_ 14 0) rfl rfl (any_of HT_.out (by kernel_rfl)) (fun _ _ _ h => h) (y_ (by rfl) ?_) ?_ ?_ ?_
                           rotate_left
                           ·intro w'
                            go_simp
                            with_reducible rfl
                           rotate_left
                           ·simp only [Act.put, s1_, s2_, s3_, i64_w, i32_w]
                            rfl
                           refine done_ (done_of HT_.out (by kernel_rfl)) ?_
                           try go_wp2
                           go_roundg k8
                           case measure => have := HJ3.out; have := HJ7.out; have := HK3.out; have := HJ41.out; have := HK5.out; have := HK6.out; have := HJ60.out; have := HK8.out; omega
                           case rel => exact ⟨(true), (wrap64 (x20_8 + 1)), (by first | rfl | (simp; done) | (simp [*]; done)), (by first | rfl | (simp; done) | (simp [*]; done)), H', ⟨by have := HJ3.out; have := HJ7.out; have := HK3.out; have := HJ41.out; have := HK5.out; have := HK6.out; have := HJ60.out; have := HK8.out; omega⟩, ⟨by (with_reducible repeat (first | apply Kd.R_alloc | apply Kd.R_drewN | apply Kd.R_drew)); exact HO_9.out⟩, ⟨by (with_reducible repeat (first | apply Kd.R_alloc | apply Kd.R_drewN | apply Kd.R_drew)); exact HO_10.out⟩, ⟨by (with_reducible repeat (first | apply Kd.R_alloc | apply Kd.R_drewN | apply Kd.R_drew)); exact HO_14.out⟩, ⟨by repeat (first | (with_reducible first | exact HB.out | apply below_alloc | apply pw_below_drewN | apply below_drew1) | exact HB.out)⟩⟩
                          ·replace c66 := Bool.eq_false_iff.mpr c66
                           subst c66
                           have H1 : (if 0 ≤ x20_8 then (if 0 ≤ x16_5 then (if x16_5 < (x14_41.length : Int) then ((span_Has.f (rd_L2 l0 x20_8) x18_60 (rd x14_41 x16_5)).bind fun t534 => (postbaglaw4_SpanMeans.l6 k8 l0 t500 x10_3 x14_41 x16_5 x17_6 x18_60 t534 (wrap64 (x20_8 + 1)))) else (none)) else (none)) else (none)) = some r := by rw [if_neg (show ¬ (false = true) by decide)] at H; exact H
                           clear H
                           have H := H1
                           clear H1
                           by_cases c68 : 0 ≤ x20_8
                           ·rw [if_pos c68] at H
                            have c68b0 : decide (0 ≤ x20_8) = true := decide_eq_true c68
                            clear c68
                            by_cases c69 : 0 ≤ x16_5
                            ·rw [if_pos c69] at H
                             have c69b0 : decide (0 ≤ x16_5) = true := decide_eq_true c69
                             clear c69
                             by_cases c70 : x16_5 < (x14_41.length : Int)
                             ·rw [if_pos c70] at H
                              have c70b0 : decide (x16_5 < (x14_41.length : Int)) = true := decide_eq_true c70
                              clear c70
                              replace H := Option.bind_eq_some_iff.mp H
                              obtain ⟨t534, A710, H⟩ := H
                              replace H : (postbaglaw4_SpanMeans.l6 k8 l0 t500 x10_3 x14_41 x16_5 x17_6 x18_60 t534 (wrap64 (x20_8 + 1))) = some r := H
                              have A71 := Aside0.mk A710
                              clear A710
                              have H' := Aside0.mk H
                              clear H
                              try go_wp2
                              have n0_ := Aside0.mk (Kd.R_drew HO_9.out)
                              have n1_ := Aside0.mk (Kd.R_drew HO_10.out)
                              have n2_ := Aside0.mk (Kd.R_drew HO_14.out)
                              have n3_ := Aside0.mk (below_drew1 HB.out)
                              clear HO_9
                              clear HO_10
                              clear HO_14
                              clear HB
                              have HO_9 := n0_
                              have HO_10 := n1_
                              have HO_14 := n2_
                              have HB := n3_
                              clear n0_ n1_ n2_ n3_
                              have p532 : 0 ≤ (x20_8 : Int) := of_decide_eq_true (by first | (with_reducible assumption) | assumption)
                              have q532 : x20_8 < (l0.length : Int) := of_decide_eq_true (by first | (with_reducible assumption) | assumption)
                              obtain ⟨ad532, A532_0, c532_0, e532, hx532_0, hl532_0, hi532_0⟩ := at_L2 HR0.out x20_8 p532 q532
                              have hw532_0 := hx532_0
                              cases e532
                              replace hx532_0 := (HB.out.cell (World.block_lt_of_cell? w _ hx532_0)).trans hx532_0
                              have HR532_0 := Aside0.mk hi532_0
                              have HC532_0 := Aside0.mk hl532_0
                              clear hi532_0 hl532_0
                              replace p532 := eq_true p532
                              replace q532 := eq_true q532
                              have p533 : 0 ≤ (x16_5 : Int) := of_decide_eq_true (by first | (with_reducible assumption) | assumption)
                              have q533 : x16_5 < (x14_41.length : Int) := of_decide_eq_true (by first | (with_reducible assumption) | assumption)
                              obtain ⟨ad533, e533, hx533_0⟩ := Kd.at_int (Kd.R_reads' HO_14.out).2.2 x16_5 p533 q533
                              obtain rfl : ad530 = ad533 := (by injection e533)
                              replace p533 := eq_true p533
                              replace q533 := eq_true q533
                              refine start_ (n := 14) (S := fun w' => w'.cell? (ad532.add (x20_8).toNat) = some (.slice A532_0 (rd_L2 l0 x20_8).length c532_0) ∧ w'.cell? (ad530.add (x16_5).toNat) = some (.int .i64 (rd x14_41 x16_5))) (ds := []) (bs_ 0 14) (by kernel_rfl) rfl rfl ⟨((HB.out.cell (World.block_lt_of_cell? w _ hw532_0)).trans hw532_0), hx533_0⟩ (fun hHeld => ?_); refine with_tabW postbaglaw4_SpanMeans.tab37 postbaglaw4_SpanMeans.bits37 (fun HT_ HW_ => ?_)
                              generalize wr.drew = w72 at HO_9 HO_10 HO_14 HB HR532_0 hx532_0 hx533_0 hHeld ⊢
                              refine pu_ 0 (some 165) ?_ (bs_ 1 13) rfl rfl (any_of HT_.out (by kernel_rfl)) (fun _ _ _ h => h) (y_ (by rfl) ?_) ?_ ?_ ?_
                              rotate_left
                              ·intro w'
                               go_simp
                               with_reducible rfl
                              rotate_left
                              ·simp only [Act.put, s1_, s2_, s3_, i64_w, i32_w]
                               rfl
                              refine pu_ 1 (some 166) ?_ (bs_ 2 12) rfl rfl (any_of HT_.out (by kernel_rfl)) (fun _ _ _ h => h) (y_ (by rfl) ?_) ?_ ?_ ?_
                              rotate_left
                              ·intro w'
                               go_simp
                               with_reducible rfl
                              rotate_left
                              ·simp only [Act.put, s1_, s2_, s3_, i64_w, i32_w]
                               rfl
                              refine pu_ 2 (some 167) ?_ (bs_ 3 11) rfl rfl (any_of HT_.out (by kernel_rfl)) (fun _ _ _ h => h) (y_ (by rfl) ?_) ?_ ?_ ?_
                              rotate_left
                              ·intro w'
                               go_simp
                               with_reducible rfl
                              rotate_left
                              ·simp only [Act.put, s1_, s2_, s3_, i64_w, i32_w]
                               rfl
                              refine pu_ 3 (some 168) ?_ (bs_ 4 10) rfl rfl (any_of HT_.out (by kernel_rfl)) (fun _ _ _ h => h) (y_ (by rfl) ?_) ?_ ?_ ?_
                              rotate_left
                              ·intro w'
                               go_simp
                               with_reducible rfl
                              rotate_left
                              ·simp only [Act.put, s1_, s2_, s3_, i64_w, i32_w]
                               rfl
                              refine pu_ 4 (some 169) ?_ (bs_ 5 9) rfl rfl (any_of HT_.out (by kernel_rfl)) (fun _ _ _ h => h) (y_ (by rfl) ?_) ?_ ?_ ?_
                              rotate_left
                              ·intro w'
                               go_simp
                               with_reducible rfl
                              rotate_left
                              ·simp only [Act.put, s1_, s2_, s3_, i64_w, i32_w]
                               rfl
                              refine pu_ 6 (some 171) ?_ #[true, true, true, true, true, false, true, false, false, false, false, false, false, false] rfl rfl (any_of HT_.out (by kernel_rfl)) (fun _ _ _ h => h) (y_ (by rfl) ?_) ?_ ?_ ?_
                              rotate_left
                              ·intro w'
                               go_simp
                               with_reducible rfl
                              rotate_left
                              ·simp only [Act.put, s1_, s2_, s3_, i64_w, i32_w]
                               rfl
                              refine pu_ 7 (some 172) ?_ #[true, true, true, true, true, false, true, true, false, false, false, false, false, false] rfl rfl (any_of HT_.out (by kernel_rfl)) (fun _ _ _ h => h) (y_ (by rfl) ?_) ?_ ?_ ?_
                              rotate_left
                              ·intro w'
                               go_simp
                               with_reducible rfl
                              rotate_left
                              ·simp only [Act.put, s1_, s2_, s3_, i64_w, i32_w]
                               rfl
                              refine pu_ 8 (some 173) ?_ #[true, true, true, true, true, false, true, true, true, false, false, false, false, false] rfl rfl (any_of HT_.out (by kernel_rfl)) (fun _ _ _ h => h) (y_ (by rfl) ?_) ?_ ?_ ?_
                              rotate_left
                              ·intro w'
                               go_simp
                               with_reducible rfl
                              rotate_left
                              ·simp only [Act.put, s1_, s2_, s3_, i64_w, i32_w]
                               rfl
                              refine pu_ 9 (some 174) ?_ #[true, true, true, true, true, false, true, true, true, true, false, false, false, false] rfl rfl (any_of HT_.out (by kernel_rfl)) (fun _ _ _ h => h) (y_ (by rfl) ?_) ?_ ?_ ?_
                              rotate_left
                              ·intro w'
                               go_simp
                               with_reducible rfl
                              rotate_left
                              ·simp only [Act.put, s1_, s2_, s3_, i64_w, i32_w]
                               rfl
                              refine take_ (i := 5) (N := some 170) (v := ?_) (a' := ?_) (bs_ 10 4) rfl rfl (take_ofW HT_.out HW_.out (by kernel_rfl)) (fun _ _ _ h => h) (Or.inl ⟨by rfl, ?_⟩) hHeld ?_ ?_
                              rotate_left
                              ·rintro w' ⟨s0, s1⟩
                               go_simp
                               with_reducible rfl
                              rotate_left
                              ·simp only [Act.put, s1_, s2_, s3_, i64_w, i32_w]
                               rfl
                              refine take_ (i := 10) (N := some 175) (v := ?_) (a' := ?_) (bs_ 11 3) rfl rfl (take_ofW HT_.out HW_.out (by kernel_rfl)) (fun _ _ _ h => h) (Or.inl ⟨by rfl, ?_⟩) hHeld ?_ ?_
                              rotate_left
                              ·rintro w' ⟨s0, s1⟩
                               go_simp
                               with_reducible rfl
                              rotate_left
                              ·simp only [Act.put, s1_, s2_, s3_, i64_w, i32_w]
                               rfl
                              refine one_ (i := 11) (N := some 176) (bs_ 12 2) rfl rfl (one_of HT_.out (by kernel_rfl)) (by decide) (fun K hK => ?_)
                              refine goes_ Tryd.func17 (by kernel_rfl) rfl #[.slice A532_0 (rd_L2 l0 x20_8).length c532_0, .int .i64 x18_60, .int .i64 (rd x14_41 x16_5)] (by rfl) rfl rfl (by (try simp only [List.map_toArray, List.map_cons, List.map_nil]); first | done | rfl | (simp only [List.length_drop, List.length_take]; rfl)) ?_
                              with_reducible refine (span_Has.calls _ _ (rd_L2 l0 x20_8) x18_60 (rd x14_41 x16_5) t534 _ ?side1 ?side2 A71.out).mono ?_
                              (case side1 => repeat (first | exact (Kd.C_below HR532_0.out HB.out) | (with_reducible refine Kd.C_alloc ?_ _) | (with_reducible refine Kd.C_drewN ?_ _) | (with_reducible refine Kd.C_drew ?_)))
                              (case side2 => exact HC532_0.out)
                              rintro e w73 ⟨rfl, hb⟩
                              have HS1_ := (hb.cell (World.block_lt_of_cell? _ _ (hHeld.2))).trans (hHeld.2)
                              refine ⟨_, rfl, ?_⟩
                              have n0_ := Aside0.mk (Kd.R_below (by (with_reducible repeat (first | apply Kd.R_alloc | apply Kd.R_drewN | apply Kd.R_drew)); exact HO_9.out) hb)
                              have n1_ := Aside0.mk (Kd.R_below (by (with_reducible repeat (first | apply Kd.R_alloc | apply Kd.R_drewN | apply Kd.R_drew)); exact HO_10.out) hb)
                              have n2_ := Aside0.mk (Kd.R_below (by (with_reducible repeat (first | apply Kd.R_alloc | apply Kd.R_drewN | apply Kd.R_drew)); exact HO_14.out) hb)
                              have n3_ := Aside0.mk (below_step (by repeat (first | (with_reducible first | exact HB.out | apply below_alloc | apply pw_below_drewN | apply below_drew1) | exact HB.out)) hb)
                              clear HO_9
                              clear HO_10
                              clear HO_14
                              clear HB
                              have HO_9 := n0_
                              have HO_10 := n1_
                              have HO_14 := n2_
                              have HB := n3_
                              clear n0_ n1_ n2_ n3_
                              (try clear hb)
                              (try clear hb2)
                              (try clear hk)
                              (try clear hi)
                              refine hK.out _ _ ⟨((HB.out.cell (World.block_lt_of_cell? w _ hw532_0)).trans hw532_0), HS1_⟩ (fun hHeld => ?_)
                              clear hK K
                              refine norm_ (a' := ?_) ?_ ?_
                              rotate_left
                              ·show Act.put _ (some 176) _ = _
                               simp only [Act.put, s1_, s2_, s3_, i64_w, i32_w]
                               rfl
                              refine pu_ 12 (some 177) ?_ (bs_ 13 1) rfl rfl (any_of HT_.out (by kernel_rfl)) (fun _ _ _ h => h) (y_ (by rfl) ?_) ?_ ?_ ?_
                              rotate_left
                              ·intro w'
                               go_simp
                               with_reducible rfl
                              rotate_left
                              ·simp only [Act.put, s1_, s2_, s3_, i64_w, i32_w]
                               rfl
                              refine pu_ 13 (some 19) ?_ (bs_ 14 0) rfl rfl (any_of HT_.out (by kernel_rfl)) (fun _ _ _ h => h) (y_ (by rfl) ?_) ?_ ?_ ?_
                              rotate_left
                              ·intro w'
                               go_simp
                               with_reducible rfl
                              rotate_left
                              ·simp only [Act.put, s1_, s2_, s3_, i64_w, i32_w]
                               rfl
                              refine done_ (done_of HT_.out (by kernel_rfl)) ?_
                              try go_wp2
                              go_roundg k8
                              case measure => have := HJ3.out; have := HJ7.out; have := HK3.out; have := HJ41.out; have := HK5.out; have := HK6.out; have := HJ60.out; have := HK8.out; omega
                              case rel => exact ⟨(t534), (wrap64 (x20_8 + 1)), (by first | rfl | (simp; done) | (simp [*]; done)), (by first | rfl | (simp; done) | (simp [*]; done)), H', ⟨by have := HJ3.out; have := HJ7.out; have := HK3.out; have := HJ41.out; have := HK5.out; have := HK6.out; have := HJ60.out; have := HK8.out; omega⟩, ⟨by (with_reducible repeat (first | apply Kd.R_alloc | apply Kd.R_drewN | apply Kd.R_drew)); exact HO_9.out⟩, ⟨by (with_reducible repeat (first | apply Kd.R_alloc | apply Kd.R_drewN | apply Kd.R_drew)); exact HO_10.out⟩, ⟨by (with_reducible repeat (first | apply Kd.R_alloc | apply Kd.R_drewN | apply Kd.R_drew)); exact HO_14.out⟩, ⟨by repeat (first | (with_reducible first | exact HB.out | apply below_alloc | apply pw_below_drewN | apply below_drew1) | exact HB.out)⟩⟩
                             ·rw [if_neg c70] at H
                              exact absurd H (by simp)
                            ·rw [if_neg c69] at H
                             exact absurd H (by simp)
                           ·rw [if_neg c68] at H
                            exact absurd H (by simp)
                         ·rw [if_neg c65] at H
                          have c65b0 : decide (x20_8 < (l0.length : Int)) = false := decide_eq_false c65
                          clear c65
                          by_cases c74 : 0 ≤ x16_5
                          ·rw [if_pos c74] at H
                           have c74b0 : decide (0 ≤ x16_5) = true := decide_eq_true c74
                           clear c74
                           by_cases c75 : x16_5 < (x14_41.length : Int)
                           ·rw [if_pos c75] at H
                            have c75b0 : decide (x16_5 < (x14_41.length : Int)) = true := decide_eq_true c75
                            clear c75
                            replace H := Option.bind_eq_some_iff.mp H
                            obtain ⟨t536, A760, H⟩ := H
                            replace H : (if (t536 != x19_8) = true then (some false) else (postbaglaw4_SpanMeans.l5 k8 l0 t500 x10_3 x14_41 x16_5 (wrap64 (x17_6 + 1)))) = some r := H
                            have A76 := Aside0.mk A760
                            clear A760
                            by_cases c77 : (t536 != x19_8) = true
                            ·rw [if_pos c77] at H
                             have c77b0 : (t536 != x19_8) = true := c77
                             (try (have c77b1 : decide (t536 = x19_8) = false := by simpa using c77))
                             (try (have c77b2 : (t536 == x19_8) = false := by simpa using c77))
                             (try (have c77b3 : ¬ (t536 = x19_8) := by simpa using c77))
                             clear c77
                             obtain rfl := Option.some.inj H
                             have p535 : 0 ≤ (x16_5 : Int) := of_decide_eq_true (by first | (with_reducible assumption) | assumption)
                             have q535 : x16_5 < (x14_41.length : Int) := of_decide_eq_true (by first | (with_reducible assumption) | assumption)
                             obtain ⟨ad535, e535, hx535_0⟩ := Kd.at_int (Kd.R_reads' HO_14.out).2.2 x16_5 p535 q535
                             obtain rfl : ad530 = ad535 := (by injection e535)
                             replace p535 := eq_true p535
                             replace q535 := eq_true q535
                             obtain ⟨Ao78, co78, eo78⟩ := Kd.R_slice HO_9.out
                             subst eo78
                             go_wp2_with (first | ((with_reducible refine gate_callee (f := 17) rfl ?_); refine goesL_ (some 184) rfl rfl Tryd.func17 (by kernel_rfl) rfl #[.slice Ao78 t500.length co78, .int .i64 x18_60, .int .i64 (rd x14_41 x16_5)] rfl (by (try simp only [List.map_toArray, List.map_cons, List.map_nil]); first | done | rfl | (simp only [List.length_drop, List.length_take]; rfl)) ?_; (with_reducible refine (span_Has.calls _ _ t500 x18_60 (rd x14_41 x16_5) t536 _ ?side1 ?side2 A76.out).mono ?_); (case side1 => repeat (first | exact (Kd.R_reads' HO_9.out).2.2 | (with_reducible refine Kd.C_alloc ?_ _) | (with_reducible refine Kd.C_drewN ?_ _) | (with_reducible refine Kd.C_drew ?_))); (case side2 => exact (Kd.R_reads' HO_9.out).2.1); rintro e w79 ⟨rfl, hb⟩; refine ⟨_, rfl, ?_⟩; have n0_ := Aside0.mk (Kd.R_below (by (with_reducible repeat (first | apply Kd.R_alloc | apply Kd.R_drewN | apply Kd.R_drew)); exact HO_9.out) hb); have n1_ := Aside0.mk (Kd.R_below (by (with_reducible repeat (first | apply Kd.R_alloc | apply Kd.R_drewN | apply Kd.R_drew)); exact HO_10.out) hb); have n2_ := Aside0.mk (Kd.R_below (by (with_reducible repeat (first | apply Kd.R_alloc | apply Kd.R_drewN | apply Kd.R_drew)); exact HO_14.out) hb); have n3_ := Aside0.mk (below_step (by repeat (first | (with_reducible first | exact HB.out | apply below_alloc | apply pw_below_drewN | apply below_drew1) | exact HB.out)) hb); clear HO_9; clear HO_10; clear HO_14; clear HB; have HO_9 := n0_; have HO_10 := n1_; have HO_14 := n2_; have HB := n3_; clear n0_ n1_ n2_ n3_; (try clear hb); (try clear hb2); (try clear hk); (try clear hi)))
                             go_ret
                             exact ⟨by first | rfl | (simp [errW_none, errW_some] <;> rfl) | (simp [*, errW_none, errW_some] <;> rfl), by repeat (first | (with_reducible first | exact HB.out | apply below_alloc | apply pw_below_drewN | apply below_drew1) | exact HB.out)⟩
                            ·rw [if_neg c77] at H
                             have c77b0 : (t536 != x19_8) = false := by simpa using c77
                             (try (have c77b1 : decide (t536 = x19_8) = true := by simpa using c77))
                             (try (have c77b2 : (t536 == x19_8) = true := by simpa using c77))
                             clear c77
                             have H' := Aside0.mk H
                             clear H
                             have p535 : 0 ≤ (x16_5 : Int) := of_decide_eq_true (by first | (with_reducible assumption) | assumption)
                             have q535 : x16_5 < (x14_41.length : Int) := of_decide_eq_true (by first | (with_reducible assumption) | assumption)
                             obtain ⟨ad535, e535, hx535_0⟩ := Kd.at_int (Kd.R_reads' HO_14.out).2.2 x16_5 p535 q535
                             obtain rfl : ad530 = ad535 := (by injection e535)
                             replace p535 := eq_true p535
                             replace q535 := eq_true q535
                             obtain ⟨Ao80, co80, eo80⟩ := Kd.R_slice HO_9.out
                             subst eo80
                             go_wp2_with (first | ((with_reducible refine gate_callee (f := 17) rfl ?_); refine goesL_ (some 184) rfl rfl Tryd.func17 (by kernel_rfl) rfl #[.slice Ao80 t500.length co80, .int .i64 x18_60, .int .i64 (rd x14_41 x16_5)] rfl (by (try simp only [List.map_toArray, List.map_cons, List.map_nil]); first | done | rfl | (simp only [List.length_drop, List.length_take]; rfl)) ?_; (with_reducible refine (span_Has.calls _ _ t500 x18_60 (rd x14_41 x16_5) t536 _ ?side1 ?side2 A76.out).mono ?_); (case side1 => repeat (first | exact (Kd.R_reads' HO_9.out).2.2 | (with_reducible refine Kd.C_alloc ?_ _) | (with_reducible refine Kd.C_drewN ?_ _) | (with_reducible refine Kd.C_drew ?_))); (case side2 => exact (Kd.R_reads' HO_9.out).2.1); rintro e w81 ⟨rfl, hb⟩; refine ⟨_, rfl, ?_⟩; have n0_ := Aside0.mk (Kd.R_below (by (with_reducible repeat (first | apply Kd.R_alloc | apply Kd.R_drewN | apply Kd.R_drew)); exact HO_9.out) hb); have n1_ := Aside0.mk (Kd.R_below (by (with_reducible repeat (first | apply Kd.R_alloc | apply Kd.R_drewN | apply Kd.R_drew)); exact HO_10.out) hb); have n2_ := Aside0.mk (Kd.R_below (by (with_reducible repeat (first | apply Kd.R_alloc | apply Kd.R_drewN | apply Kd.R_drew)); exact HO_14.out) hb); have n3_ := Aside0.mk (below_step (by repeat (first | (with_reducible first | exact HB.out | apply below_alloc | apply pw_below_drewN | apply below_drew1) | exact HB.out)) hb); clear HO_9; clear HO_10; clear HO_14; clear HB; have HO_9 := n0_; have HO_10 := n1_; have HO_14 := n2_; have HB := n3_; clear n0_ n1_ n2_ n3_; (try clear hb); (try clear hb2); (try clear hk); (try clear hi)))
                             go_roundg k8
                             case measure => have := HJ3.out; have := HJ7.out; have := HK3.out; have := HJ41.out; have := HK5.out; have := HK6.out; have := HJ60.out; have := HK8.out; omega
                             case rel => exact ⟨(wrap64 (x17_6 + 1)), (by first | rfl | (simp; done) | (simp [*]; done)), H', ⟨by have := HJ3.out; have := HJ7.out; have := HK3.out; have := HJ41.out; have := HK5.out; have := HK6.out; have := HJ60.out; have := HK8.out; omega⟩, ⟨by (with_reducible repeat (first | apply Kd.R_alloc | apply Kd.R_drewN | apply Kd.R_drew)); exact HO_9.out⟩, ⟨by (with_reducible repeat (first | apply Kd.R_alloc | apply Kd.R_drewN | apply Kd.R_drew)); exact HO_10.out⟩, ⟨by (with_reducible repeat (first | apply Kd.R_alloc | apply Kd.R_drewN | apply Kd.R_drew)); exact HO_14.out⟩, ⟨by repeat (first | (with_reducible first | exact HB.out | apply below_alloc | apply pw_below_drewN | apply below_drew1) | exact HB.out)⟩⟩
                           ·rw [if_neg c75] at H
                            exact absurd H (by simp)
                          ·rw [if_neg c74] at H
                           exact absurd H (by simp)
                    ·rw [if_neg c60] at H
                     exact absurd H (by simp)
                   ·rw [if_neg c59] at H
                    exact absurd H (by simp)
                  ·rw [if_neg c58] at H
                   have c58b0 : decide (x17_6 ≤ (x10_3.length : Int)) = false := decide_eq_false c58
                   clear c58
                   have H' := Aside0.mk H
                   clear H
                   obtain ⟨Ao82, co82, eo82⟩ := Kd.R_slice HO_10.out
                   subst eo82
                   go_wp2
                   go_roundg k6
                   case measure => have := HJ3.out; have := HJ7.out; have := HK3.out; have := HJ41.out; have := HK5.out; have := HK6.out; omega
                   case rel => exact ⟨(wrap64 (x16_5 + 1)), (by first | rfl | (simp; done) | (simp [*]; done)), H', ⟨by have := HJ3.out; have := HJ7.out; have := HK3.out; have := HJ41.out; have := HK5.out; have := HK6.out; omega⟩, ⟨by (with_reducible repeat (first | apply Kd.R_alloc | apply Kd.R_drewN | apply Kd.R_drew)); exact HO_9.out⟩, ⟨by (with_reducible repeat (first | apply Kd.R_alloc | apply Kd.R_drewN | apply Kd.R_drew)); exact HO_10.out⟩, ⟨by (with_reducible repeat (first | apply Kd.R_alloc | apply Kd.R_drewN | apply Kd.R_drew)); exact HO_14.out⟩, ⟨by repeat (first | (with_reducible first | exact HB.out | apply below_alloc | apply pw_below_drewN | apply below_drew1) | exact HB.out)⟩⟩
               ·rw [if_neg c56] at H
                have c56b0 : decide (x16_5 < (x14_41.length : Int)) = false := decide_eq_false c56
                clear c56
                replace H := Option.bind_eq_some_iff.mp H
                obtain ⟨t529, A830, H⟩ := H
                replace H : (some t529) = some r := H
                have A83 := Aside0.mk A830
                clear A830
                obtain rfl := Option.some.inj H
                obtain ⟨Ao84, co84, eo84⟩ := Kd.R_slice HO_14.out
                subst eo84
                go_wp2_with (first | ((with_reducible refine gate_callee (f := 20) rfl ?_); refine goesL_ (some 187) rfl rfl Tryd.func20 (by kernel_rfl) rfl #[] rfl (by (try simp only [List.map_toArray, List.map_cons, List.map_nil]); first | done | rfl | (simp only [List.length_drop, List.length_take]; rfl)) ?_; (with_reducible refine (postbaglaw4_known.calls k5  t529 _ A83.out (by first | exact laid_below HL_.out (by repeat (first | (with_reducible first | exact HB.out | apply below_alloc | apply pw_below_drewN | apply below_drew1) | exact HB.out)) | exact laid_drawn HL_.out (by repeat (first | exact Drawn0.refl _ | apply Drawn0.step)))).mono ?_); rintro e w85 ⟨rfl, hb⟩; refine ⟨_, rfl, ?_⟩; have n0_ := Aside0.mk (Kd.R_below (by (with_reducible repeat (first | apply Kd.R_alloc | apply Kd.R_drewN | apply Kd.R_drew)); exact HO_9.out) hb); have n1_ := Aside0.mk (Kd.R_below (by (with_reducible repeat (first | apply Kd.R_alloc | apply Kd.R_drewN | apply Kd.R_drew)); exact HO_10.out) hb); have n2_ := Aside0.mk (Kd.R_below (by (with_reducible repeat (first | apply Kd.R_alloc | apply Kd.R_drewN | apply Kd.R_drew)); exact HO_14.out) hb); have n3_ := Aside0.mk (below_step (by repeat (first | (with_reducible first | exact HB.out | apply below_alloc | apply pw_below_drewN | apply below_drew1) | exact HB.out)) hb); clear HO_9; clear HO_10; clear HO_14; clear HB; have HO_9 := n0_; have HO_10 := n1_; have HO_14 := n2_; have HB := n3_; clear n0_ n1_ n2_ n3_; (try clear hb); (try clear hb2); (try clear hk); (try clear hi)))
                go_ret
                exact ⟨by first | rfl | (simp [errW_none, errW_some] <;> rfl) | (simp [*, errW_none, errW_some] <;> rfl), by repeat (first | (with_reducible first | exact HB.out | apply below_alloc | apply pw_below_drewN | apply below_drew1) | exact HB.out)⟩
          ·rw [if_neg c41] at H
           exact absurd H (by simp)
      ·rw [if_neg c12] at H
       exact absurd H (by simp)
end Go.Proofs.YtidcchopmbodkaaDoor.Sp
end
section
namespace Go.Proofs.YtidcchopmbodkaaDoor.Sp
open Go.RowKit Go.Proofs.YtidcchopmbodkaaDoorW.PrintWords Go.Proofs.YtidcchopmbodkaaDoorW.PrintLast Go.Proofs.YtidcchopmbodkaaDoorW.PrintMore
attribute [local go_sem] max2_int min2_int max_two min_two max_three min_three max_four min_four   -- for this text's walks alone
set_option linter.unusedVariables false
set_option linter.unusedSimpArgs false
end Go.Proofs.YtidcchopmbodkaaDoor.Sp
end
section
namespace Go.Proofs.YtidcchopmbodkaaDoor.Sp
open Go.RowKit Go.Proofs.YtidcchopmbodkaaDoorW.PrintWords Go.Proofs.YtidcchopmbodkaaDoorW.PrintLast Go.Proofs.YtidcchopmbodkaaDoorW.PrintMore
attribute [local go_sem] max2_int min2_int max_two min_two max_three min_three max_four min_four   -- for this text's walks alone
set_option linter.unusedVariables false
set_option linter.unusedSimpArgs false
end Go.Proofs.YtidcchopmbodkaaDoor.Sp
end
section
namespace Go.Proofs.YtidcchopmbodkaaDoor.Sp
open Go.RowKit Go.Proofs.YtidcchopmbodkaaDoorW.PrintWords Go.Proofs.YtidcchopmbodkaaDoorW.PrintLast Go.Proofs.YtidcchopmbodkaaDoorW.PrintMore
open Canon
theorem w64n (i : Nat) (h : i < 4611686018427387904) : wrap64 ((i : Int) + 1) = ((i + 1 : Nat) : Int) := by unfold wrap64; omega
theorem rd_at (l : List Int) (i : Nat) (h : i < l.length) : rd l (i : Int) = l[i] := by
  unfold rd
  rw [List.getD_eq_getElem?_getD, show ((i : Int)).toNat = i from by omega, List.getElem?_eq_getElem h]
  rfl
theorem rd28_at (l : List S28) (i : Nat) (h : i < l.length) : rd_T28 l (i : Int) = l[i] := by
  unfold rd_T28
  rw [List.getD_eq_getElem?_getD, show ((i : Int)).toNat = i from by omega, List.getElem?_eq_getElem h]
  rfl
theorem mn_eq (a b : Int) : mn a b = min a b := by unfold mn; split <;> omega
theorem mx_eq (a b : Int) : mx a b = max a b := by unfold mx; split <;> omega
theorem pr_un (l : List Rg) : (l.map un).map pr = l := by rw [List.map_map]; exact (List.map_congr_left fun x _ => rfl).trans (List.map_id l)
def hasB (l : List S28) (n g : Int) : Bool := if g < 1 ∨ n < 1 then false else l.any (pieceB n g)
theorem has_f (l : List S28) (n g : Int) : span_Has.f l n g = some (hasB l n g) := rfl
end Go.Proofs.YtidcchopmbodkaaDoor.Sp
end
section
namespace Go.Proofs.YtidcchopmbodkaaDoor.Sp
open Go.RowKit Go.Proofs.YtidcchopmbodkaaDoorW.PrintWords Go.Proofs.YtidcchopmbodkaaDoorW.PrintLast Go.Proofs.YtidcchopmbodkaaDoorW.PrintMore
open Canon
theorem putL_len : ∀ (l m behind : List Rg) (a b : Int), (putL l m behind a b).length ≤ l.length + m.length + behind.length + 1
  | [], m, behind, a, b => by simp [putL]; omega
  | s :: l, m, behind, a, b => by
    unfold putL
    split
    · have := putL_len l (m ++ [s]) behind a b; simp at this ⊢; omega
    · split
      · have := putL_len l m (behind ++ [s]) a b; simp at this ⊢; omega
      · have := putL_len l m behind (min a s.1) (max b s.2); simp at this ⊢; omega
theorem canon_len (l : List Rg) : (canon l).length ≤ l.length := by
  have key : ∀ (l acc : List Rg), (l.foldl (fun acc r => put acc r.1 r.2) acc).length ≤ acc.length + l.length := by
    intro l
    induction l with
    | nil => intro acc; simp
    | cons r l ih =>
      intro acc
      have h1 := ih (put acc r.1 r.2)
      have h2 := putL_len acc [] [] r.1 r.2
      have h3 : (put acc r.1 r.2).length ≤ acc.length + 1 := by simpa [put] using h2
      simp only [List.foldl_cons, List.length_cons]
      omega
  have := key l []
  simpa [canon] using this
structure Form (A : List S28) : Prop where
  rises : Rises (A.map pr)
  ends : ∀ x ∈ A, 1 ≤ x.f0 ∧ x.f1 ≤ 4294967295
theorem Form.le {A : List S28} (h : Form A) (x : S28) (hx : x ∈ A) : x.f0 ≤ x.f1 := h.rises.1 (pr x) (List.mem_map.2 ⟨x, hx, rfl⟩)
theorem mem_pr (A : List S28) (n : Int) : Mem (A.map pr) n ↔ ∃ x ∈ A, x.f0 ≤ n ∧ n ≤ x.f1 := by
  constructor
  · rintro ⟨r, hr, h⟩
    obtain ⟨x, hx, rfl⟩ := List.mem_map.1 hr
    exact ⟨x, hx, h⟩
  · rintro ⟨x, hx, h⟩
    exact ⟨pr x, List.mem_map.2 ⟨x, hx, rfl⟩, h⟩
theorem piece_plain (x : S28) (n g : Int) (h1 : 1 ≤ x.f0) (h2 : x.f0 ≤ x.f1) (h3 : x.f1 ≤ 4294967295) : pieceB n g x = decide (x.f0 ≤ n ∧ n ≤ x.f1) := by
  unfold pieceB rngB isE
  rw [if_neg (by omega), if_neg (by omega), Bool.eq_iff_iff]
  simp
  omega
theorem form_canon (l : List Rg) (hl : ∀ r ∈ l, 1 ≤ r.1 ∧ r.1 ≤ r.2 ∧ r.2 ≤ 4294967295) : Form ((canon l).map un) ∧ ∀ n, Mem (((canon l).map un).map pr) n ↔ Mem l n := by
  obtain ⟨h1, h2⟩ := canon_ok l fun r hr => (hl r hr).2.1
  refine ⟨⟨by rw [pr_un]; exact h1, fun x hx => ?_⟩, fun n => by rw [pr_un]; exact h2 n⟩
  obtain ⟨r, hr, rfl⟩ := List.mem_map.1 hx
  have hle := h1.1 r hr
  obtain ⟨s, hs, k1, k2⟩ := (h2 r.1).1 ⟨r, hr, by omega, by omega⟩
  obtain ⟨t, ht, k3, k4⟩ := (h2 r.2).1 ⟨r, hr, by omega, by omega⟩
  have := hl s hs
  have := hl t ht
  exact ⟨by show 1 ≤ r.1; omega, by show r.2 ≤ 4294967295; omega⟩
def upto (a : Int) (k : Nat) : List Int := (List.range k).map fun i : Nat => a + (i : Int)
end Go.Proofs.YtidcchopmbodkaaDoor.Sp
end
section
namespace Go.Proofs.YtidcchopmbodkaaDoor.Sp
open Go.RowKit Go.Proofs.YtidcchopmbodkaaDoorW.PrintWords Go.Proofs.YtidcchopmbodkaaDoorW.PrintLast Go.Proofs.YtidcchopmbodkaaDoorW.PrintMore
open Canon
structure JS where
  p : List S28
  st : Bool
  lo : Int
  hi : Int
def nlo (lo t : Int) : Int := if 0 < t ∧ (lo = 0 ∨ t < lo) then t else lo
theorem nlo_spec (lo t : Int) : (0 < t ∧ (lo = 0 ∨ t < lo) ∧ nlo lo t = t) ∨ ((¬ 0 < t ∨ (lo ≠ 0 ∧ lo ≤ t)) ∧ nlo lo t = lo) := by
  unfold nlo
  split <;> omega
def jstep (s : JS) (x : S28) : JS :=
  if rngB x = false then s
  else if 0 < min x.f0 x.f1 then { s with p := s.p ++ [⟨min x.f0 x.f1, max x.f0 x.f1⟩] }
  else { p := s.p, st := true, lo := nlo s.lo (max x.f0 x.f1), hi := max s.hi (max x.f0 x.f1) }
def j0 : JS := ⟨[], false, 0, 0⟩
def jfin (s : JS) : List S28 :=
  let o := (canon ((if s.lo = s.hi then s.p else s.p ++ [⟨s.lo, s.hi⟩]).map pr)).map un
  if s.st = true then o ++ [⟨s.lo, 0⟩] else o
def joinA (l : List S28) : List S28 := jfin (l.foldl jstep j0)
structure JOk (s : JS) : Prop where
  ok : ∀ x ∈ s.p, 1 ≤ x.f0 ∧ x.f0 ≤ x.f1 ∧ x.f1 ≤ 4294967295
  lo0 : 0 ≤ s.lo
  le : s.lo ≤ s.hi
  hi1 : s.hi ≤ 4294967295
  zero : s.lo = 0 → s.hi = 0
  off : s.st = false → s.hi = 0
theorem j0_ok : JOk j0 := ⟨by simp [j0], Int.le_refl _, Int.le_refl _, by decide, fun _ => rfl, fun _ => rfl⟩
theorem rng_iff (x : S28) : rngB x = true ↔ 0 ≤ x.f0 ∧ 0 ≤ x.f1 ∧ x.f0 ≤ 4294967295 ∧ x.f1 ≤ 4294967295 := by
  unfold rngB
  simp only [Bool.and_eq_true, decide_eq_true_eq]
  omega
theorem jstep_ok (s : JS) (x : S28) (h : JOk s) : JOk (jstep s x) := by
  obtain ⟨h1, h2, h3, h4, h5, h6⟩ := h
  unfold jstep
  by_cases hr : rngB x = true
  · rw [if_neg (by simp [hr])]
    rw [rng_iff] at hr
    split
    · rename_i hm
      refine ⟨fun y hy => ?_, h2, h3, h4, h5, h6⟩
      rcases List.mem_append.1 hy with hy | hy
      · exact h1 y hy
      · rw [List.mem_singleton] at hy
        subst hy
        show 1 ≤ min x.f0 x.f1 ∧ min x.f0 x.f1 ≤ max x.f0 x.f1 ∧ max x.f0 x.f1 ≤ 4294967295
        omega
    · rename_i hm
      have hn := nlo_spec s.lo (max x.f0 x.f1)
      have ht : 0 ≤ max x.f0 x.f1 ∧ max x.f0 x.f1 ≤ 4294967295 := by omega
      generalize max x.f0 x.f1 = u at *
      generalize nlo s.lo u = v at *
      refine ⟨h1, ?_, ?_, ?_, ?_, fun h => by cases h⟩
      · show 0 ≤ v; omega
      · show v ≤ max s.hi u; omega
      · show max s.hi u ≤ _; omega
      · show v = 0 → max s.hi u = 0
        intro h
        by_cases hz : s.lo = 0
        · have := h5 hz; omega
        · omega
  · rw [if_pos (by simpa using hr)]
    exact ⟨h1, h2, h3, h4, h5, h6⟩
theorem jfold_ok (l : List S28) : ∀ s, JOk s → JOk (l.foldl jstep s) := by
  induction l with
  | nil => intro s h; exact h
  | cons x l ih => intro s h; exact ih _ (jstep_ok s x h)
def JHas (s : JS) (n g : Int) : Prop := (∃ x ∈ s.p, x.f0 ≤ n ∧ n ≤ x.f1) ∨ (s.st = true ∧ ((s.lo = 0 ∧ n = g) ∨ (0 < s.lo ∧ ((min s.lo g ≤ n ∧ n ≤ max s.lo g) ∨ (s.lo ≤ n ∧ n ≤ s.hi)))))
theorem jstep_has (s : JS) (x : S28) (h : JOk s) (n g : Int) (hg : 1 ≤ g) : JHas (jstep s x) n g ↔ JHas s n g ∨ pieceB n g x = true := by
  obtain ⟨h1, h2, h3, h4, h5, h6⟩ := h
  unfold jstep
  by_cases hr : rngB x = true
  · rw [if_neg (by simp [hr])]
    have hp : pieceB n g x = true ↔ min (isE g x.f0) (isE g x.f1) ≤ n ∧ n ≤ max (isE g x.f0) (isE g x.f1) := by
      unfold pieceB
      rw [hr]
      simp
    rw [hp]
    rw [rng_iff] at hr
    split
    · rename_i hm
      have e1 : isE g x.f0 = x.f0 := by unfold isE; rw [if_neg (by omega)]
      have e2 : isE g x.f1 = x.f1 := by unfold isE; rw [if_neg (by omega)]
      rw [e1, e2]
      unfold JHas
      simp only [List.mem_append, List.mem_singleton]
      constructor
      · rintro (⟨y, hy | hy, k⟩ | k)
        · exact Or.inl (Or.inl ⟨y, hy, k⟩)
        · subst hy; exact Or.inr k
        · exact Or.inl (Or.inr k)
      · rintro ((⟨y, hy, k⟩ | k) | k)
        · exact Or.inl ⟨y, Or.inl hy, k⟩
        · exact Or.inr k
        · exact Or.inl ⟨_, Or.inr rfl, k⟩
    · rename_i hm
      have e : (min (isE g x.f0) (isE g x.f1) ≤ n ∧ n ≤ max (isE g x.f0) (isE g x.f1)) ↔ (max x.f0 x.f1 = 0 ∧ n = g) ∨ (0 < max x.f0 x.f1 ∧ min (max x.f0 x.f1) g ≤ n ∧ n ≤ max (max x.f0 x.f1) g) := by
        unfold isE
        by_cases a0 : x.f0 = 0
        · rw [if_pos a0]
          by_cases b0 : x.f1 = 0
          · rw [if_pos b0]; omega
          · rw [if_neg b0]; omega
        · rw [if_neg a0, if_pos (by omega)]; omega
      rw [e]
      unfold JHas
      have ht : 0 ≤ max x.f0 x.f1 := by omega
      generalize max x.f0 x.f1 = t at *
      show ((∃ y ∈ s.p, y.f0 ≤ n ∧ n ≤ y.f1) ∨ (true = true ∧ ((nlo s.lo t = 0 ∧ n = g) ∨ (0 < nlo s.lo t ∧ ((min (nlo s.lo t) g ≤ n ∧ n ≤ max (nlo s.lo t) g) ∨ (nlo s.lo t ≤ n ∧ n ≤ max s.hi t)))))) ↔ _
      generalize (∃ y ∈ s.p, y.f0 ≤ n ∧ n ≤ y.f1) = Q
      have hn := nlo_spec s.lo t
      generalize nlo s.lo t = v at *
      by_cases hQ : Q
      · simp [hQ]
      · simp only [hQ, false_or, true_and]
        by_cases hs : s.st = true
        · simp only [hs, true_and]
          by_cases hz : s.lo = 0
          · have := h5 hz; omega
          · omega
        · have hs' : s.st = false := by simpa using hs
          have := h6 hs'
          simp only [hs', Bool.false_eq_true, false_and, false_or]
          omega
  · rw [if_pos (by simpa using hr)]
    have hr' : rngB x = false := by simpa using hr
    have hp : pieceB n g x = false := by unfold pieceB; rw [hr']; rfl
    rw [hp]
    simp
theorem jfold_has (l : List S28) (n g : Int) (hg : 1 ≤ g) : ∀ s, JOk s → (JHas (l.foldl jstep s) n g ↔ JHas s n g ∨ l.any (pieceB n g) = true) := by
  induction l with
  | nil => intro s _; simp
  | cons x l ih =>
    intro s h
    show JHas (l.foldl jstep (jstep s x)) n g ↔ _
    rw [ih _ (jstep_ok s x h), jstep_has s x h n g hg, List.any_cons, Bool.or_eq_true, or_assoc]
theorem j0_has (n g : Int) : ¬ JHas j0 n g := by
  rintro (⟨x, hx, _⟩ | ⟨h, _⟩)
  · simp [j0] at hx
  · cases h
def jplain (s : JS) : List S28 := (canon ((if s.lo = s.hi then s.p else s.p ++ [⟨s.lo, s.hi⟩]).map pr)).map un
theorem jplain_form (s : JS) (h : JOk s) : Form (jplain s) ∧ ∀ n, Mem ((jplain s).map pr) n ↔ (∃ x ∈ s.p, x.f0 ≤ n ∧ n ≤ x.f1) ∨ (s.lo ≠ s.hi ∧ s.lo ≤ n ∧ n ≤ s.hi) := by
  obtain ⟨h1, h2, h3, h4, h5, h6⟩ := h
  have hl : ∀ r ∈ (if s.lo = s.hi then s.p else s.p ++ [⟨s.lo, s.hi⟩]).map pr, 1 ≤ r.1 ∧ r.1 ≤ r.2 ∧ r.2 ≤ 4294967295 := by
    intro r hr
    obtain ⟨x, hx, rfl⟩ := List.mem_map.1 hr
    split at hx
    · exact h1 x hx
    · rename_i hne
      rcases List.mem_append.1 hx with hx | hx
      · exact h1 x hx
      · rw [List.mem_singleton] at hx
        subst hx
        show 1 ≤ s.lo ∧ s.lo ≤ s.hi ∧ s.hi ≤ 4294967295
        have : s.lo ≠ 0 := fun e => hne (by rw [e, h5 e])
        omega
  obtain ⟨f1, f2⟩ := form_canon _ hl
  refine ⟨f1, fun n => (f2 n).trans ?_⟩
  rw [mem_pr]
  split
  · rename_i he
    constructor
    · intro h; exact Or.inl h
    · rintro (h | ⟨h, _⟩)
      · exact h
      · exact absurd he h
  · rename_i hne
    simp only [List.mem_append, List.mem_singleton]
    constructor
    · rintro ⟨x, hx | hx, k⟩
      · exact Or.inl ⟨x, hx, k⟩
      · subst hx; exact Or.inr ⟨hne, k⟩
    · rintro (⟨x, hx, k⟩ | ⟨_, k⟩)
      · exact ⟨x, Or.inl hx, k⟩
      · exact ⟨_, Or.inr rfl, k⟩
theorem any_form {A : List S28} (h : Form A) (n g : Int) : A.any (pieceB n g) = true ↔ Mem (A.map pr) n := by
  rw [List.any_eq_true, mem_pr]
  constructor
  · rintro ⟨x, hx, hp⟩
    rw [piece_plain x n g (h.ends x hx).1 (h.le x hx) (h.ends x hx).2] at hp
    exact ⟨x, hx, of_decide_eq_true hp⟩
  · rintro ⟨x, hx, hp⟩
    exact ⟨x, hx, by rw [piece_plain x n g (h.ends x hx).1 (h.le x hx) (h.ends x hx).2]; exact decide_eq_true hp⟩
theorem join_has (l : List S28) (n g : Int) : hasB (joinA l) n g = hasB l n g := by
  unfold hasB
  by_cases h0 : g < 1 ∨ n < 1
  · rw [if_pos h0, if_pos h0]
  · rw [if_neg h0, if_neg h0, Bool.eq_iff_iff]
    have hk := jfold_ok l j0 j0_ok
    have hh := jfold_has l n g (by omega) j0 j0_ok
    have : l.any (pieceB n g) = true ↔ JHas (l.foldl jstep j0) n g := by
      rw [hh]; exact ⟨Or.inr, fun h => h.elim (fun h => absurd h (j0_has n g)) id⟩
    rw [this]
    unfold joinA
    generalize l.foldl jstep j0 = s at *
    obtain ⟨f1, f2⟩ := jplain_form s hk
    have e : jfin s = if s.st = true then jplain s ++ [⟨s.lo, 0⟩] else jplain s := rfl
    rw [e]
    obtain ⟨h1, h2, h3, h4, h5, h6⟩ := hk
    unfold JHas
    by_cases hs : s.st = true
    · rw [if_pos hs, List.any_append, Bool.or_eq_true, any_form f1, f2]
      have hp : ([⟨s.lo, 0⟩] : List S28).any (pieceB n g) = true ↔ (s.lo = 0 ∧ n = g) ∨ (0 < s.lo ∧ min s.lo g ≤ n ∧ n ≤ max s.lo g) := by
        simp only [List.any_cons, List.any_nil, Bool.or_false]
        have hr : rngB ⟨s.lo, 0⟩ = true := by rw [rng_iff]; exact ⟨h2, Int.le_refl _, by show s.lo ≤ _; omega, by show (0 : Int) ≤ _; decide⟩
        unfold pieceB
        rw [hr]
        simp only [Bool.true_and, Bool.and_eq_true, decide_eq_true_eq]
        unfold isE
        by_cases h00 : s.lo = 0
        · rw [if_pos h00, if_pos rfl]; omega
        · rw [if_neg h00, if_pos rfl]; omega
      rw [hp]
      generalize (∃ y ∈ s.p, y.f0 ≤ n ∧ n ≤ y.f1) = Q
      by_cases hQ : Q
      · simp [hQ]
      · simp only [hQ, hs, false_or, true_and]
        omega
    · have hs' : s.st = false := by simpa using hs
      rw [if_neg hs, any_form f1, f2]
      have := h6 hs'
      simp only [hs', Bool.false_eq_true, false_and, or_false]
      constructor
      · rintro (h | h)
        · exact h
        · omega
      · exact Or.inl
end Go.Proofs.YtidcchopmbodkaaDoor.Sp
end
section
namespace Go.Proofs.YtidcchopmbodkaaDoor.Sp
open Go.RowKit Go.Proofs.YtidcchopmbodkaaDoorW.PrintWords Go.Proofs.YtidcchopmbodkaaDoorW.PrintLast Go.Proofs.YtidcchopmbodkaaDoorW.PrintMore
open Canon
theorem rdL2j_at (l : List (List S28)) (i : Nat) (h : i < l.length) : rd_L2 l (i : Int) = l[i] := by
  unfold rd_L2
  rw [List.getD_eq_getElem?_getD, show ((i : Int)).toNat = i from by omega, List.getElem?_eq_getElem h]
  rfl
theorem rng_f (x : S28) : span_isRange.f x.f0 x.f1 = some (rngB x) := by
  unfold span_isRange.f rngB
  rw [mn_eq, mx_eq]
  by_cases h : min x.f0 x.f1 ≥ 0
  · rw [if_pos h, decide_eq_true (show 0 ≤ min x.f0 x.f1 from h), Bool.true_and]
  · rw [if_neg h, decide_eq_false (show ¬ 0 ≤ min x.f0 x.f1 from h), Bool.false_and]
theorem jstep_len (s : JS) (x : S28) : (jstep s x).p.length ≤ s.p.length + 1 := by
  unfold jstep
  split
  · omega
  · split
    · simp
    · simp
theorem join_step (s : JS) (x : S28) (hp : s.p.length < 8796093022208) (k : Nat) (sets : List (List S28)) (n i : Int) (l : List S28) (m j : Int) :
    ((span_isRange.f x.f0 x.f1).bind fun t126 => (if t126 = true then (if (mn x.f0 x.f1) > 0 then (if s.p.length < 8796093022208 then (span_Join.l1 k (s.p ++ [(⟨mn x.f0 x.f1, mx x.f0 x.f1⟩ : S28)]) s.st s.lo s.hi sets n i l m j) else (none)) else (if (mx x.f0 x.f1) > 0 then (if s.lo = 0 then (span_Join.l1 k s.p true (mx x.f0 x.f1) (mx s.hi (mx x.f0 x.f1)) sets n i l m j) else (if (mx x.f0 x.f1) < s.lo then (span_Join.l1 k s.p true (mx x.f0 x.f1) (mx s.hi (mx x.f0 x.f1)) sets n i l m j) else (span_Join.l1 k s.p true s.lo (mx s.hi (mx x.f0 x.f1)) sets n i l m j))) else (span_Join.l1 k s.p true s.lo (mx s.hi (mx x.f0 x.f1)) sets n i l m j))) else (span_Join.l1 k s.p s.st s.lo s.hi sets n i l m j)))
    = span_Join.l1 k (jstep s x).p (jstep s x).st (jstep s x).lo (jstep s x).hi sets n i l m j := by
  rw [rng_f, Option.bind_some, mn_eq, mx_eq]
  by_cases hr : rngB x = true
  · rw [if_pos hr]
    by_cases hm : min x.f0 x.f1 > 0
    · have e : jstep s x = { s with p := s.p ++ [⟨min x.f0 x.f1, max x.f0 x.f1⟩] } := by unfold jstep; rw [if_neg (by rw [hr]; simp), if_pos hm]
      rw [if_pos hm, if_pos hp, e]
    · have e : jstep s x = { p := s.p, st := true, lo := nlo s.lo (max x.f0 x.f1), hi := max s.hi (max x.f0 x.f1) } := by unfold jstep; rw [if_neg (by rw [hr]; simp), if_neg hm]
      rw [if_neg hm, e]
      simp only [mx_eq]
      unfold nlo
      by_cases h1 : max x.f0 x.f1 > 0
      · rw [if_pos h1]
        by_cases h2 : s.lo = 0
        · rw [if_pos h2, if_pos ⟨h1, Or.inl h2⟩]
        · rw [if_neg h2]
          by_cases h3 : max x.f0 x.f1 < s.lo
          · rw [if_pos h3, if_pos ⟨h1, Or.inr h3⟩]
          · rw [if_neg h3, if_neg (by rintro ⟨_, h | h⟩ <;> contradiction)]
      · rw [if_neg h1, if_neg (fun h => h1 h.1)]
  · have e : jstep s x = s := by unfold jstep; rw [if_pos (by simpa using hr)]
    rw [if_neg hr, e]
theorem join_l1 (l : List S28) (hl : l.length ≤ 8000000000000) (sets : List (List S28)) (n i : Int) (d : Nat) : ∀ (j k : Nat) (s : JS), j + d = l.length → JOk s → s.p.length + d ≤ 8000000000000 →
    span_Join.l1 (k + (d + 1)) s.p s.st s.lo s.hi sets n i l (l.length : Int) (j : Int) = span_Join.l0 k ((l.drop j).foldl jstep s).p ((l.drop j).foldl jstep s).st ((l.drop j).foldl jstep s).lo ((l.drop j).foldl jstep s).hi sets n (wrap64 (i + 1)) := by
  induction d with
  | zero =>
    intro j k s hj hs hp
    rw [Nat.zero_add]
    simp only [span_Join.l1]
    rw [if_neg (by omega), List.drop_of_length_le (by omega)]
    rfl
  | succ d ih =>
    intro j k s hj hs hp
    have hjl : j < l.length := by omega
    have ih' := fun s => ih (j + 1) k s (by omega)
    rw [show k + (d + 1 + 1) = (k + (d + 1)) + 1 from by omega]
    generalize k + (d + 1) = K at ih' ⊢
    simp only [span_Join.l1]
    rw [if_pos (by omega), if_pos (by omega), if_pos (by omega), rd28_at l j hjl, w64n j (by omega), List.drop_eq_getElem_cons hjl]
    generalize l[j] = x
    have hlen := jstep_len s x
    refine (join_step s x (by omega) K sets n i l (l.length : Int) ((j + 1 : Nat) : Int)).trans ?_
    exact ih' (jstep s x) (jstep_ok s x hs) (by omega)
def cost : List (List S28) → Nat
  | [] => 0
  | l :: r => l.length + 2 + cost r
theorem jfold_len (l : List S28) : ∀ s : JS, (l.foldl jstep s).p.length ≤ s.p.length + l.length := by
  induction l with
  | nil => intro s; simp
  | cons x l ih => intro s; have h1 := ih (jstep s x); have h2 := jstep_len s x; simp only [List.foldl_cons, List.length_cons]; omega
theorem united_ok (l : List S28) (hl : l.length ≤ 8000000000000) (h : ∀ x ∈ l, 1 ≤ x.f0 ∧ x.f0 ≤ x.f1 ∧ x.f1 ≤ 4294967295) : span_united.f l = some ((canon (l.map pr)).map un) := by
  unfold span_united.f
  rw [if_pos]
  refine ⟨by omega, List.all_eq_true.2 fun x hx => ?_⟩
  have := h x hx
  show (decide (0 ≤ x.f0) && (decide (x.f0 ≤ x.f1) && decide (x.f1 ≤ 4294967295))) = true
  simp
  omega
theorem join_end (s : JS) (hs : JOk s) (hp : s.p.length ≤ 4000000000000) (k : Nat) (sets : List (List S28)) (i : Int) (hi : (sets.length : Int) ≤ i) : span_Join.l0 (k + 1) s.p s.st s.lo s.hi sets (sets.length : Int) i = some (jfin s) := by
  simp only [span_Join.l0]
  rw [if_neg (by omega)]
  have fin : ∀ q : List S28, q.length ≤ 8000000000000 → (∀ x ∈ q, 1 ≤ x.f0 ∧ x.f0 ≤ x.f1 ∧ x.f1 ≤ 4294967295) → ((span_united.f q).bind fun t130 => (if s.st = true then (if t130.length < 8796093022208 then (some (t130 ++ [(⟨s.lo, 0⟩ : S28)])) else (none)) else (some t130))) = some (if s.st = true then (canon (q.map pr)).map un ++ [⟨s.lo, 0⟩] else (canon (q.map pr)).map un) := by
    intro q hq hok
    rw [united_ok q hq hok, Option.bind_some]
    by_cases h : s.st = true
    · rw [if_pos h, if_pos h, if_pos (by rw [List.length_map]; have := canon_len (q.map pr); rw [List.length_map] at this; omega)]
    · rw [if_neg h, if_neg h]
  unfold jfin
  by_cases he : s.lo = s.hi
  · rw [if_pos he]
    refine (fin s.p (by omega) hs.ok).trans ?_
    simp only [if_pos he]
  · rw [if_neg he, if_pos (by omega)]
    have hq : (s.p ++ [(⟨s.lo, s.hi⟩ : S28)]).length ≤ 8000000000000 := by rw [List.length_append, List.length_singleton]; omega
    have hqo : ∀ x ∈ s.p ++ [(⟨s.lo, s.hi⟩ : S28)], 1 ≤ x.f0 ∧ x.f0 ≤ x.f1 ∧ x.f1 ≤ 4294967295 := by
      intro x hx
      rcases List.mem_append.1 hx with hx | hx
      · exact hs.ok x hx
      · rw [List.mem_singleton] at hx
        subst hx
        have h0 : s.lo ≠ 0 := fun e => he (by rw [e, hs.zero e])
        have := hs.lo0; have := hs.le; have := hs.hi1
        show 1 ≤ s.lo ∧ s.lo ≤ s.hi ∧ s.hi ≤ 4294967295
        omega
    refine (fin _ hq hqo).trans ?_
    simp only [if_neg he]
theorem join_l0 (sets : List (List S28)) (hl : sets.length ≤ 8000000000000) (hb : ∀ l ∈ sets, l.length ≤ 4000000000000) (d : Nat) : ∀ (i k : Nat) (s : JS), i + d = sets.length → JOk s → s.p.length + (sets.drop i).flatten.length ≤ 4000000000000 → cost (sets.drop i) + 1 ≤ k →
    span_Join.l0 k s.p s.st s.lo s.hi sets (sets.length : Int) (i : Int) = some (jfin ((sets.drop i).flatten.foldl jstep s)) := by
  induction d with
  | zero =>
    intro i k s hi hs hp hk
    obtain ⟨k, rfl⟩ : ∃ j, k = j + 1 := ⟨k - 1, by omega⟩
    rw [List.drop_of_length_le (by omega)] at hp ⊢
    rw [join_end s hs (by simpa using hp) k sets (i : Int) (by omega)]
    rfl
  | succ d ih =>
    intro i k s hi hs hp hk
    have hil : i < sets.length := by omega
    rw [List.drop_eq_getElem_cons hil] at hp hk ⊢
    have hbl := hb sets[i] (List.getElem_mem hil)
    obtain ⟨k, rfl⟩ : ∃ j, k = j + 1 := ⟨k - 1, by omega⟩
    simp only [span_Join.l0]
    rw [if_pos (by omega), if_pos (by omega), if_pos (by omega), rdL2j_at sets i hil]
    generalize sets[i] = l at *
    simp only [cost] at hk
    simp only [List.flatten_cons, List.length_append] at hp
    have h1 := join_l1 l (by omega) sets (sets.length : Int) (i : Int) l.length 0 (k - (l.length + 1)) s (by omega) hs (by omega)
    rw [show k - (l.length + 1) + (l.length + 1) = k from by omega, List.drop_zero, w64n i (by omega)] at h1
    refine Eq.trans h1 ?_
    have hlen := jfold_len l s
    rw [ih (i + 1) (k - (l.length + 1)) (l.foldl jstep s) (by omega) (jfold_ok l s hs) (by omega) (by omega), List.flatten_cons, List.foldl_append]
theorem join_f (sets : List (List S28)) (hl : sets.length ≤ 8000000000000) (hn : sets.flatten.length ≤ 4000000000000) (k : Nat) (hk : cost sets + 1 ≤ k) : span_Join.f k sets = some (joinA sets.flatten) := by
  unfold span_Join.f
  have hb : ∀ l ∈ sets, l.length ≤ 4000000000000 := by
    intro l hm
    have := List.Sublist.length_le (List.sublist_flatten_of_mem hm)
    omega
  have := join_l0 sets hl hb sets.length 0 k j0 (by omega) j0_ok (by simpa [j0] using hn) (by simpa using hk)
  rw [List.drop_zero] at this
  exact this
theorem cost_le (sets : List (List S28)) : cost sets = sets.flatten.length + 2 * sets.length := by
  induction sets with
  | nil => rfl
  | cons l r ih => simp only [cost, ih, List.flatten_cons, List.length_append, List.length_cons]; omega
end Go.Proofs.YtidcchopmbodkaaDoor.Sp
end
section
namespace Go.Proofs.YtidcchopmbodkaaDoor.Sp
open Go.RowKit Go.Proofs.YtidcchopmbodkaaDoorW.PrintWords Go.Proofs.YtidcchopmbodkaaDoorW.PrintLast Go.Proofs.YtidcchopmbodkaaDoorW.PrintMore
theorem known_50 : postbaglaw4_known.f 50 = some true := by kernel_rfl
end Go.Proofs.YtidcchopmbodkaaDoor.Sp
end
section
namespace Go.Proofs.YtidcchopmbodkaaDoor.Sp
open Go.RowKit Go.Proofs.YtidcchopmbodkaaDoorW.PrintWords Go.Proofs.YtidcchopmbodkaaDoorW.PrintLast Go.Proofs.YtidcchopmbodkaaDoorW.PrintMore
open Canon
theorem known_m (k : Nat) (hk : 50 ≤ k) : postbaglaw4_known.f k = some true := at_rounds postbaglaw4_known.mono hk known_50
theorem has_flat (sets : List (List S28)) (n g : Int) : hasB sets.flatten n g = sets.any fun l => hasB l n g := by
  induction sets with
  | nil =>
    show hasB [] n g = false
    unfold hasB
    split <;> rfl
  | cons l r ih =>
    rw [List.flatten_cons, List.any_cons, ← ih]
    unfold hasB
    by_cases h : g < 1 ∨ n < 1
    · rw [if_pos h, if_pos h, if_pos h]; rfl
    · rw [if_neg h, if_neg h, if_neg h, List.any_append]
section
variable (sets : List (List S28)) (hS : sets.length ≤ 60) (J : List S28) (hJ : ∀ n g, hasB J n g = sets.any fun l => hasB l n g)
include hS hJ
theorem means_l6 (x10 x14 : List Int) (i : Nat) (hi : i < x14.length) (t n : Int) (d : Nat) :
    ∀ (j k : Nat) (b : Bool), j + d = sets.length → (b || (sets.drop j).any fun l => hasB l n x14[i]) = (sets.any fun l => hasB l n x14[i]) →
    postbaglaw4_SpanMeans.l6 (k + (d + 1)) sets J x10 x14 (i : Int) t n b (j : Int) = postbaglaw4_SpanMeans.l5 k sets J x10 x14 (i : Int) (wrap64 (t + 1)) := by
  induction d with
  | zero =>
    intro j k b hj hb
    rw [Nat.zero_add]
    simp only [postbaglaw4_SpanMeans.l6]
    rw [if_neg (by omega), if_pos (by omega), if_pos (by omega), has_f, Option.bind_some, rd_at x14 i hi, hJ, ← hb, List.drop_of_length_le (by omega)]
    simp
  | succ d ih =>
    intro j k b hj hb
    have hjl : j < sets.length := by omega
    have ih' := fun b => ih (j + 1) k b (by omega)
    rw [show k + (d + 1 + 1) = (k + (d + 1)) + 1 from by omega]
    generalize k + (d + 1) = K at ih' ⊢
    rw [List.drop_eq_getElem_cons hjl, List.any_cons] at hb
    simp only [postbaglaw4_SpanMeans.l6]
    rw [if_pos (by omega), w64n j (by omega)]
    cases b with
    | true =>
      rw [if_pos rfl]
      exact ih' true (by rw [← hb]; rfl)
    | false =>
      rw [if_neg (by simp), if_pos (by omega), if_pos (by omega), if_pos (by omega), has_f, Option.bind_some, rd_at x14 i hi, rdL2j_at sets j hjl]
      exact ih' _ (by rw [← hb]; simp)
theorem means_l5 (x10 x14 : List Int) (h10 : x10.length ≤ 500) (i : Nat) (hi : i < x14.length) (C : Nat) (next : ∀ k, C ≤ k → postbaglaw4_SpanMeans.l4 k sets J x10 x14 ((i + 1 : Nat) : Int) = some true) (hi2 : i ≤ 100) (d : Nat) :
    ∀ (t k : Nat), t + d = x10.length + 1 → C + 70 * d + 100 ≤ k → postbaglaw4_SpanMeans.l5 k sets J x10 x14 (i : Int) (t : Int) = some true := by
  induction d with
  | zero =>
    intro t k ht hk
    obtain ⟨k, rfl⟩ : ∃ j, k = j + 1 := ⟨k - 1, by omega⟩
    simp only [postbaglaw4_SpanMeans.l5]
    rw [if_neg (by omega), w64n i (by omega)]
    exact next k (by omega)
  | succ d ih =>
    intro t k ht hk
    obtain ⟨k, rfl⟩ : ∃ j, k = j + 2 := ⟨k - 2, by omega⟩
    have go : ∀ n : Int, postbaglaw4_SpanMeans.j9 (k + 1) sets J x10 x14 (i : Int) (t : Int) n = some true := by
      intro n
      simp only [postbaglaw4_SpanMeans.j9]
      have := means_l6 sets hS J hJ x10 x14 i hi (t : Int) n sets.length 0 (k - (sets.length + 1)) false (by omega) (by rw [List.drop_zero]; rfl)
      rw [show k - (sets.length + 1) + (sets.length + 1) = k from by omega] at this
      refine Eq.trans this ?_
      rw [w64n t (by omega)]
      exact ih (t + 1) _ (by omega) (by omega)
    simp only [postbaglaw4_SpanMeans.l5]
    rw [if_pos (by omega), if_pos (by omega), if_pos (by omega)]
    by_cases h : (t : Int) < (x10.length : Int)
    · rw [if_pos h, if_pos (by omega)]; exact go _
    · rw [if_neg h]; exact go _
theorem means_l4 (x10 x14 : List Int) (h10 : x10.length ≤ 500) (h14 : x14.length ≤ 16) (d : Nat) : ∀ (i k : Nat), i + d = x14.length → 40000 * d + 200 ≤ k → postbaglaw4_SpanMeans.l4 k sets J x10 x14 (i : Int) = some true := by
  induction d with
  | zero =>
    intro i k hi hk
    obtain ⟨k, rfl⟩ : ∃ j, k = j + 1 := ⟨k - 1, by omega⟩
    simp only [postbaglaw4_SpanMeans.l4]
    rw [if_neg (by omega), known_m k (by omega)]
    rfl
  | succ d ih =>
    intro i k hi hk
    obtain ⟨k, rfl⟩ : ∃ j, k = j + 1 := ⟨k - 1, by omega⟩
    simp only [postbaglaw4_SpanMeans.l4]
    rw [if_pos (by omega)]
    exact means_l5 sets hS J hJ x10 x14 h10 i (by omega) (40000 * d + 200) (fun k hk => ih (i + 1) k (by omega) hk) (by omega) (x10.length + 1) 0 k (by omega) (by omega)
theorem means_l3 (x10 : List Int) (h10 : x10.length ≤ 500) (d : Nat) : ∀ (i k : Nat) (x14 : List Int), i + d = x10.length → x14.length ≤ 16 → 700000 + d ≤ k → postbaglaw4_SpanMeans.l3 k sets J x10 x14 (i : Int) = some true := by
  have fin : ∀ (k : Nat) (x14 : List Int), x14.length ≤ 16 → 650000 ≤ k → postbaglaw4_SpanMeans.j6 k sets J x10 x14 = some true := by
    intro k x14 h hk
    obtain ⟨k, rfl⟩ : ∃ j, k = j + 1 := ⟨k - 1, by omega⟩
    simp only [postbaglaw4_SpanMeans.j6]
    exact means_l4 sets hS J hJ x10 x14 h10 h x14.length 0 k (by omega) (by omega)
  induction d with
  | zero =>
    intro i k x14 hi h hk
    obtain ⟨k, rfl⟩ : ∃ j, k = j + 1 := ⟨k - 1, by omega⟩
    simp only [postbaglaw4_SpanMeans.l3]
    rw [if_neg (by omega)]
    exact fin k x14 h (by omega)
  | succ d ih =>
    intro i k x14 hi h hk
    obtain ⟨k, rfl⟩ : ∃ j, k = j + 1 := ⟨k - 1, by omega⟩
    simp only [postbaglaw4_SpanMeans.l3]
    rw [if_pos (by omega)]
    by_cases h16 : (x14.length : Int) < 16
    · rw [if_pos h16, if_pos (by omega), if_pos (by omega), w64n i (by omega)]
      exact ih (i + 1) k _ (by omega) (by rw [List.length_append, List.length_singleton]; omega) (by omega)
    · rw [if_neg h16]
      exact fin k x14 h (by omega)
end
theorem means_l2 (sets : List (List S28)) (hS : sets.length ≤ 60) (J : List S28) (gr : List Int) (i : Nat) (hi : i < sets.length) (hl : sets[i].length ≤ 60) (B C : Nat) (next : ∀ k (x : List Int), C ≤ k → x.length ≤ B + 6 * sets[i].length → postbaglaw4_SpanMeans.l1 k sets gr J x ((i + 1 : Nat) : Int) = some true) (hB : B ≤ 1000) (d : Nat) :
    ∀ (j k : Nat) (x10 : List Int), j + d = sets[i].length → x10.length ≤ B + 6 * j → C + d + 5 ≤ k → postbaglaw4_SpanMeans.l2 k sets gr J x10 (i : Int) (j : Int) = some true := by
  induction d with
  | zero =>
    intro j k x10 hj hx hk
    obtain ⟨k, rfl⟩ : ∃ j, k = j + 1 := ⟨k - 1, by omega⟩
    simp only [postbaglaw4_SpanMeans.l2]
    rw [if_pos (by omega), if_pos (by omega), rdL2j_at sets i hi, if_neg (by omega), w64n i (by omega)]
    exact next k x10 (by omega) (by omega)
  | succ d ih =>
    intro j k x10 hj hx hk
    obtain ⟨k, rfl⟩ : ∃ j, k = j + 1 := ⟨k - 1, by omega⟩
    have skip := ih (j + 1) k x10 (by omega) (by omega) (by omega)
    simp only [postbaglaw4_SpanMeans.l2]
    rw [if_pos (by omega), if_pos (by omega), rdL2j_at sets i hi, if_pos (by omega), if_pos (by omega), w64n j (by omega), Option.bind_some]
    split
    · split
      · split
        · split
          · rw [if_pos (by simp; omega)]
            exact ih (j + 1) k _ (by omega) (by simp; omega) (by omega)
          · exact skip
        · exact skip
      · exact skip
    · exact skip
section
variable (sets : List (List S28)) (hS : sets.length ≤ 60) (J : List S28) (hJ : ∀ n g, hasB J n g = sets.any fun l => hasB l n g)
include hS hJ
theorem means_l1 (gr : List Int) (hg : gr.length ≤ 6) (hb : ∀ l ∈ sets, l.length ≤ 60) (A : Nat) (hA : A + 6 * sets.flatten.length ≤ 500) (d : Nat) :
    ∀ (i k : Nat) (x10 : List Int), i + d = sets.length → x10.length ≤ A + 6 * (sets.take i).flatten.length → 800000 + 100 * d ≤ k → postbaglaw4_SpanMeans.l1 k sets gr J x10 (i : Int) = some true := by
  induction d with
  | zero =>
    intro i k x10 hi hx hk
    obtain ⟨k, rfl⟩ : ∃ j, k = j + 1 := ⟨k - 1, by omega⟩
    rw [List.take_of_length_le (by omega)] at hx
    simp only [postbaglaw4_SpanMeans.l1]
    rw [if_neg (by omega), Option.bind_some, if_pos (by simp; omega), List.nil_append]
    exact means_l3 sets hS J hJ x10 (by omega) x10.length 0 k gr (by omega) (by omega) (by omega)
  | succ d ih =>
    intro i k x10 hi hx hk
    obtain ⟨k, rfl⟩ : ∃ j, k = j + 1 := ⟨k - 1, by omega⟩
    have hil : i < sets.length := by omega
    have ht : sets.take (i + 1) = sets.take i ++ [sets[i]] := List.take_succ_eq_append_getElem hil
    have hlen : (sets.take (i + 1)).flatten.length = (sets.take i).flatten.length + sets[i].length := by rw [ht, List.flatten_append, List.length_append]; simp
    have hle : (sets.take i).flatten.length ≤ sets.flatten.length := by
      have : sets.flatten = (sets.take i).flatten ++ (sets.drop i).flatten := by rw [← List.flatten_append, List.take_append_drop]
      rw [this, List.length_append]; omega
    simp only [postbaglaw4_SpanMeans.l1]
    rw [if_pos (by omega)]
    exact means_l2 sets hS J gr i hil (hb _ (List.getElem_mem hil)) (A + 6 * (sets.take i).flatten.length) (800000 + 100 * d) (fun k x hk hx => ih (i + 1) k x (by omega) (by rw [hlen]; omega) hk) (by omega) sets[i].length 0 k x10 (by omega) (by omega) (by have := hb _ (List.getElem_mem hil); omega)
end
theorem means_j2 (sets : List (List S28)) (at_ gr : List Int) (h : sets.length + at_.length + sets.flatten.length ≤ 60) (hg : gr.length ≤ 6) (k : Nat) (hk : 900000 ≤ k) : postbaglaw4_SpanMeans.j2 k sets at_ gr false = some true := by
  obtain ⟨k, rfl⟩ : ∃ j, k = j + 1 := ⟨k - 1, by omega⟩
  simp only [postbaglaw4_SpanMeans.j2]
  rw [if_neg (by simp), join_f sets (by omega) (by omega) k (by rw [cost_le]; omega), Option.bind_some, Option.bind_some, if_pos (by simp; omega), List.nil_append]
  refine means_l1 sets (by omega) (joinA sets.flatten) (fun n g => by rw [join_has, has_flat]) gr hg (fun l hm => ?_) at_.length (by omega) sets.length 0 k at_ (by omega) (by simp) (by omega)
  have := List.Sublist.length_le (List.sublist_flatten_of_mem hm)
  omega
theorem means_l0 (sets : List (List S28)) (at_ gr : List Int) (hb : ∀ l ∈ sets, l.length ≤ 8796093022208) (hS : sets.length ≤ 8796093022208) (hA : at_.length ≤ 17592186044416) (d : Nat) :
    ∀ (i k : Nat) (n : Nat), i + d = sets.length → n = sets.length + at_.length + (sets.take i).flatten.length → n ≤ 50000000000000 → 1000000 + d ≤ k → postbaglaw4_SpanMeans.l0 k sets at_ gr (n : Int) (i : Int) = some true := by
  have big : ∀ (k : Nat) (n : Int), n > 60 → 10 ≤ k → postbaglaw4_SpanMeans.j1 k sets at_ gr n = some true := by
    intro k n hn hk
    obtain ⟨k, rfl⟩ : ∃ j, k = j + 2 := ⟨k - 2, by omega⟩
    simp only [postbaglaw4_SpanMeans.j1]
    rw [if_pos hn]
    simp only [postbaglaw4_SpanMeans.j2]
    rw [if_pos trivial]
  induction d with
  | zero =>
    intro i k n hi hn h5 hk
    obtain ⟨k, rfl⟩ : ∃ j, k = j + 2 := ⟨k - 2, by omega⟩
    rw [List.take_of_length_le (by omega)] at hn
    simp only [postbaglaw4_SpanMeans.l0]
    rw [if_neg (by omega)]
    by_cases h : (n : Int) > 60
    · exact big _ _ h (by omega)
    · simp only [postbaglaw4_SpanMeans.j1]
      rw [if_neg h]
      by_cases hg : (gr.length : Int) > 6
      · rw [decide_eq_true hg]
        obtain ⟨k, rfl⟩ : ∃ j, k = j + 1 := ⟨k - 1, by omega⟩
        simp only [postbaglaw4_SpanMeans.j2]
        rw [if_pos trivial]
      · rw [decide_eq_false hg]
        exact means_j2 sets at_ gr (by omega) (by omega) k (by omega)
  | succ d ih =>
    intro i k n hi hn h5 hk
    obtain ⟨k, rfl⟩ : ∃ j, k = j + 1 := ⟨k - 1, by omega⟩
    have hil : i < sets.length := by omega
    simp only [postbaglaw4_SpanMeans.l0]
    rw [if_pos (by omega)]
    by_cases h : (n : Int) ≤ 60
    · have ht : sets.take (i + 1) = sets.take i ++ [sets[i]] := List.take_succ_eq_append_getElem hil
      have hlen : (sets.take (i + 1)).flatten.length = (sets.take i).flatten.length + sets[i].length := by rw [ht, List.flatten_append, List.length_append]; simp
      have hl := hb _ (List.getElem_mem hil)
      have hw : wrap64 ((n : Int) + (sets[i].length : Int)) = ((n + sets[i].length : Nat) : Int) := by unfold wrap64; omega
      rw [if_pos h, if_pos (by omega), rdL2j_at sets i hil, hw, w64n i (by omega)]
      exact ih (i + 1) k _ (by omega) (by rw [hlen]; omega) (by omega) (by omega)
    · rw [if_neg h]
      exact big _ _ (by omega) (by omega)
theorem means_true (sets : List (List S28)) (at_ gr : List Int) (hb : ∀ l ∈ sets, l.length ≤ 8796093022208) (hS : sets.length ≤ 8796093022208) (hA : at_.length ≤ 17592186044416) : ∃ k, postbaglaw4_SpanMeans.f k sets at_ gr = some true := by
  refine ⟨1000000 + sets.length, ?_⟩
  unfold postbaglaw4_SpanMeans.f
  have hw : wrap64 ((sets.length : Int) + (at_.length : Int)) = ((sets.length + at_.length : Nat) : Int) := by unfold wrap64; omega
  rw [hw]
  exact means_l0 sets at_ gr hb hS hA sets.length 0 _ _ (by omega) (by simp) (by omega) (by omega)
end Go.Proofs.YtidcchopmbodkaaDoor.Sp
namespace Go.Proofs.YtidcchopmbodkaaDoor.Pure
open Go.Proofs.YtidcchopmbodkaaDoor.Sp
theorem sizesM : Tryd.prog.bytesOf 28 = 16 ∧ Tryd.prog.bytesOf 3 = 8 ∧ Tryd.prog.bytesOf 23 = 24 := ⟨by kernel_rfl, by kernel_rfl, by kernel_rfl⟩
theorem SpanMeans (sets : List (List S28)) (at_ gr : List Int) {Q R : Prop} {P : S28 → Prop} (h0 : (∀ y ∈ sets, (∀ z ∈ y, P z) ∧ y.length * Tryd.prog.bytesOf 28 ≤ 140737488351232) ∧ sets.length * Tryd.prog.bytesOf 23 ≤ 140737488351232) (h1 : Q ∧ at_.length * Tryd.prog.bytesOf 3 ≤ 140737488351232) (_ : R) : ∃ k, postbaglaw4_SpanMeans.f k sets at_ gr = some true := by
  obtain ⟨s1, s2, s3⟩ := sizesM
  obtain ⟨h0, h00⟩ := h0
  have h1 := h1.2
  rw [s2] at h1
  rw [s3] at h00
  refine means_true sets at_ gr (fun l hl => ?_) (by omega) (by omega)
  have := (h0 l hl).2
  rw [s1] at this
  omega
end Go.Proofs.YtidcchopmbodkaaDoor.Pure
end
section
namespace Go.Proofs.YtidcchopmbodkaaDoor.Sp
open Go.ChangeShapes Go.WideShapes Go.ChangeAt Go.RowKit
theorem gPow : Tryd.prog.globalNamed "internal/strconv.uint64pow10" = some 1 := by kernel_rfl
theorem tPow : (Tryd.prog.globals[1]?).map (·.type) = some 134 := by kernel_rfl
theorem door_met (os : Os) (args : Array Value) : laidMetH Tryd.prog [("math/bits.deBruijn32tab", Rows.laid_math_bits_deBruijn32tab), ("math/bits.deBruijn64tab", Rows.laid_math_bits_deBruijn64tab), ("internal/strconv.uint64pow10", Rows.laid_internal_strconv_uint64pow10)] ((World.doorLaid Tryd.prog 400 os).forCall (fun _ _ => 0) ⟨#[], args, []⟩).memory :=
  laidMetH_of_parts3 (fuel := 8) (laidMet_of_run' 8 (by kernel_rfl) (by kernel_rfl)) (by kernel_rfl) (by kernel_rfl)
theorem pow_data {H : Type} : (Rows.laid_internal_strconv_uint64pow10 : DataW H) = Lib.tabData .u64 Lib.pow10Tab := by kernel_rfl
theorem of_laid {W : World} (h : laidMetH Tryd.prog [("math/bits.deBruijn32tab", Rows.laid_math_bits_deBruijn32tab), ("math/bits.deBruijn64tab", Rows.laid_math_bits_deBruijn64tab), ("internal/strconv.uint64pow10", Rows.laid_internal_strconv_uint64pow10)] W) : Laid W := by
  rw [MakeChecks.laidMetH_plain _ _ _ (by kernel_rfl)] at h
  obtain ⟨ps, h1, _, _⟩ := h
  obtain ⟨_, _, _, _, _, _, _, _, _, _, h1, _⟩ := h1
  obtain ⟨_, _, _, _, _, _, _, _, _, _, h1, _⟩ := h1
  obtain ⟨g1, t1, cs1, f1, p1, q1, hg1, ht1, hv1, hd1, _, _⟩ := h1
  obtain rfl := Option.some.inj (gPow.symm.trans hg1)
  obtain rfl := Option.some.inj (tPow.symm.trans ht1)
  rw [pow_data] at hd1
  exact ⟨by unfold Lib.TabIs; rw [hv1, ← Lib.cells_of_tab Tryd.underlying134 Tryd.underlying113 (by kernel_rfl) (by kernel_rfl) hd1]⟩
end Go.Proofs.YtidcchopmbodkaaDoor.Sp
end
