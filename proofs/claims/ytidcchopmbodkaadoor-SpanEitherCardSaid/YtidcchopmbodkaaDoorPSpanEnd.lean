/- Printed by wip/myprint.py of this session over the kit's print.py: the contract of a Go function (what a plain Lean function says, the call does). -/
import Derived.Test.YtidcchopmbodkaaDoorSp0
import Derived.Test.YtidcchopmbodkaaDoorSp1
namespace Go.Proofs.YtidcchopmbodkaaDoor.Sp
open Go.RowKit Go.Proofs.YtidcchopmbodkaaDoorW.PrintWords Go.Proofs.YtidcchopmbodkaaDoorW.PrintLast Go.Proofs.YtidcchopmbodkaaDoorW.PrintMore
attribute [local go_sem] max2_int min2_int max_two min_two max_three min_three max_four min_four   -- for this text's walks alone
set_option linter.unusedVariables false
set_option linter.unusedSimpArgs false
/-! ### span_end: function 51 -/
mutual
def span_end.j0 : Nat → ByteArray → Bool → Option (Int × Bool)
 | 0, _, _ => none
 | k + 1, x0, x19 => if x19 = true then (some (0, false)) else (span_end.l0 k x0 0 (x0.size : Int) 0)
def span_end.l0 : Nat → ByteArray → Int → Int → Int → Option (Int × Bool)
 | 0, _, _, _, _ => none
 | k + 1, x0, x4, x21, x22 => if x22 < x21 then (if 0 ≤ x22 then (if x22 < (x0.size : Int) then (if (bt x0 x22) < 48 then (some (0, false)) else (if (bt x0 x22) > 57 then (some (0, false)) else (span_end.l0 k x0 (wrap64 ((wrap64 (10 * x4)) + (((bt x0 x22) - 48) % 256))) x21 (wrap64 (x22 + 1))))) else (none)) else (none)) else (some (x4, decide (x4 ≤ 4294967295)))
end
def span_end.f (k : Nat) (a0 : ByteArray) : Option (Int × Bool) := if a0.toList = ([42] : List UInt8) then (some (0, true)) else (if a0.toList = ([] : List UInt8) then (span_end.j0 k a0 true) else (if 0 < (a0.size : Int) then (if (bt a0 0) = 48 then (span_end.j0 k a0 true) else (span_end.j0 k a0 (decide ((a0.size : Int) > 10)))) else (none)))
theorem span_end.mono_l : ∀ k, (∀ y0 y1, LeO (span_end.j0 k y0 y1) (span_end.j0 (k + 1) y0 y1)) ∧ (∀ y0 y1 y2 y3, LeO (span_end.l0 k y0 y1 y2 y3) (span_end.l0 (k + 1) y0 y1 y2 y3))
 | 0 => ⟨fun _ _ r h => by simp [span_end.j0] at h, fun _ _ _ _ r h => by simp [span_end.l0] at h⟩
 | k + 1 => by
  obtain ⟨ih0, ih1⟩ := span_end.mono_l k
  refine ⟨?_, ?_⟩
  ·intro y0 y1
   unfold span_end.j0
   repeat' first
   | (with_reducible exact ih0 _ _)
   | (with_reducible exact ih1 _ _ _ _)
   | (with_reducible exact LeO.refl _)
   | (with_reducible exact LeO.none _)
   | (with_reducible refine LeO.ite ?_ ?_)
   | (with_reducible refine LeO.bind ?_ (fun _ => ?_))
   | exact ih0 _ _
   | exact ih1 _ _ _ _
   | exact LeO.none _
   | refine LeO.ite ?_ ?_
   | refine LeO.bind ?_ (fun _ => ?_)
  ·intro y0 y1 y2 y3
   unfold span_end.l0
   repeat' first
   | (with_reducible exact ih0 _ _)
   | (with_reducible exact ih1 _ _ _ _)
   | (with_reducible exact LeO.refl _)
   | (with_reducible exact LeO.none _)
   | (with_reducible refine LeO.ite ?_ ?_)
   | (with_reducible refine LeO.bind ?_ (fun _ => ?_))
   | exact ih0 _ _
   | exact ih1 _ _ _ _
   | exact LeO.none _
   | refine LeO.ite ?_ ?_
   | refine LeO.bind ?_ (fun _ => ?_)
theorem span_end.mono : ∀ a0 k, LeO (span_end.f k a0) (span_end.f (k + 1) a0) := by
 intro a0 k
 obtain ⟨ih0, ih1⟩ := span_end.mono_l k
 unfold span_end.f
 repeat' first
   | (with_reducible exact ih0 _ _)
   | (with_reducible exact ih1 _ _ _ _)
   | (with_reducible exact LeO.refl _)
   | (with_reducible exact LeO.none _)
   | (with_reducible refine LeO.ite ?_ ?_)
   | (with_reducible refine LeO.bind ?_ (fun _ => ?_))
   | exact ih0 _ _
   | exact ih1 _ _ _ _
   | exact LeO.none _
   | refine LeO.ite ?_ ?_
   | refine LeO.bind ?_ (fun _ => ?_)
set_option maxHeartbeats 8000000 in
set_option maxRecDepth 100000 in
theorem span_end.calls (k : Nat) (a0 : ByteArray) (r1 : Int) (r2 : Bool) (w : World) (h : span_end.f k a0 = some (r1, r2)) :
  Calls Tryd.prog 51 #[.string a0] w fun e w' => e = .returned (.tuple #[.int .i64 r1, .bool r2]) ∧ Drawn0 w w' := by
 have H : (if a0.toList = ([42] : List UInt8) then (some (0, true)) else (if a0.toList = ([] : List UInt8) then (span_end.j0 k a0 true) else (if 0 < (a0.size : Int) then (if (bt a0 0) = 48 then (span_end.j0 k a0 true) else (span_end.j0 k a0 (decide ((a0.size : Int) > 10)))) else (none)))) = some (r1, r2) := h
 clear h
 by_cases c2 : a0.toList = ([42] : List UInt8)
 ·rw [if_pos c2] at H
  have c2b0 : (a0.toList == ([42] : List UInt8)) = true := beq_iff_eq.mpr c2
  have c2b1 : (a0.toList != ([42] : List UInt8)) = false := bne_eq_false_iff_eq.mpr c2
  clear c2
  simp only [Option.some.injEq, Prod.mk.injEq] at H
  obtain ⟨rfl, rfl⟩ := H
  go_enter Tryd.func51, Tryd.ntmps51
  go_wp2
  go_ret2
  exact ⟨by first | rfl | (simp; done) | (simp [*]; done), by repeat (first | exact Drawn0.refl _ | apply Drawn0.step)⟩
 ·rw [if_neg c2] at H
  have c2b0 : (a0.toList == ([42] : List UInt8)) = false := beq_eq_false_iff_ne.mpr c2
  have c2b1 : (a0.toList != ([42] : List UInt8)) = true := bne_iff_ne.mpr c2
  have HC3 := Aside0.mk H
  clear H
  go_enter Tryd.func51, Tryd.ntmps51
  go_upto_region 3 with (fail)
  go_cut [19] (fun v19 wc => ∃ (kq : Nat) (x19_2 : Bool), v19 = .bool x19_2 ∧ Aside0 (span_end.j0 kq a0 x19_2 = some (r1, r2)) ∧ Aside0 (kq ≤ k) ∧ Drawn0 w wc)
  case first =>
   have H := HC3.out
   clear HC3
   by_cases c4 : a0.toList = ([] : List UInt8)
   ·rw [if_pos c4] at H
    have c4b0 : (a0.toList == ([] : List UInt8)) = true := beq_iff_eq.mpr c4
    have c4b1 : (a0.toList != ([] : List UInt8)) = false := bne_eq_false_iff_eq.mpr c4
    clear c4
    (first | rw [c4b0] | (simp only [i64_w, i32_w]; rw [c4b0]) | skip)
    have H' := Aside0.mk H
    clear H
    go_wp2
    go_meet
    case rel => exact ⟨_, (true), (by first | rfl | (simp; done) | (simp [*]; done)), H', ⟨by first | omega | exact Nat.le_refl _⟩, by repeat (first | exact Drawn0.refl _ | apply Drawn0.step)⟩
   ·rw [if_neg c4] at H
    have c4b0 : (a0.toList == ([] : List UInt8)) = false := beq_eq_false_iff_ne.mpr c4
    have c4b1 : (a0.toList != ([] : List UInt8)) = true := bne_iff_ne.mpr c4
    (first | rw [c4b0] | (simp only [i64_w, i32_w]; rw [c4b0]) | skip)
    by_cases c5 : 0 < (a0.size : Int)
    ·rw [if_pos c5] at H
     have c5b0 : decide (0 < (a0.size : Int)) = true := decide_eq_true c5
     have c5b1 : decide (0 < a0.size) = true := decide_eq_true (by omega)
     clear c5
     by_cases c7 : (bt a0 0) = 48
     ·rw [if_pos c7] at H
      have c7b0 : ((bt a0 0) == 48) = true := beq_iff_eq.mpr c7
      have c7b1 : ((bt a0 0) != 48) = false := bne_eq_false_iff_eq.mpr c7
      clear c7
      have H' := Aside0.mk H
      clear H
      have p6 : 0 ≤ (0 : Int) := (by omega)
      have q6 : 0 < a0.size := (by have : (0 : Int) < (a0.size : Int) := of_decide_eq_true (by first | (with_reducible assumption) | assumption); omega)
      have hx6 : ∀ h : 0 < a0.size, ((a0[0]'h).toNat : Int) = bt a0 0 := bt_at a0 0
      clear p6
      have qi6 : (0 < (a0.size : Int)) = True := eq_true (of_decide_eq_true (by first | (with_reducible assumption) | assumption))
      replace q6 := eq_true q6
      go_wp2
      go_meet
      case rel => exact ⟨_, (true), (by first | rfl | (simp; done) | (simp [*]; done)), H', ⟨by first | omega | exact Nat.le_refl _⟩, by repeat (first | exact Drawn0.refl _ | apply Drawn0.step)⟩
     ·rw [if_neg c7] at H
      have c7b0 : ((bt a0 0) == 48) = false := beq_eq_false_iff_ne.mpr c7
      have c7b1 : ((bt a0 0) != 48) = true := bne_iff_ne.mpr c7
      have H' := Aside0.mk H
      clear H
      have p6 : 0 ≤ (0 : Int) := (by omega)
      have q6 : 0 < a0.size := (by have : (0 : Int) < (a0.size : Int) := of_decide_eq_true (by first | (with_reducible assumption) | assumption); omega)
      have hx6 : ∀ h : 0 < a0.size, ((a0[0]'h).toNat : Int) = bt a0 0 := bt_at a0 0
      clear p6
      have qi6 : (0 < (a0.size : Int)) = True := eq_true (of_decide_eq_true (by first | (with_reducible assumption) | assumption))
      replace q6 := eq_true q6
      go_wp2
      go_meet
      case rel => exact ⟨_, (decide ((a0.size : Int) > 10)), (by first | rfl | (simp; done) | (simp [*]; done)), H', ⟨by first | omega | exact Nat.le_refl _⟩, by repeat (first | exact Drawn0.refl _ | apply Drawn0.step)⟩
    ·rw [if_neg c5] at H
     exact absurd H (by simp)
  case rest =>
   clear HC3
   try clear c2
   try clear c2b0
   try clear c2b1
   try clear p2
   try clear c4
   try clear c4b0
   try clear c4b1
   try clear c5
   try clear c5b0
   try clear c5b1
   try clear p6
   try clear q6
   try clear hx6
   try clear qi6
   try clear c7
   try clear c7b0
   try clear c7b1
   try clear p6
   try clear q6
   obtain ⟨kq, x19_2, rfl, HA, HJ2, ⟨mc2, rfl⟩⟩ := hcut
   cases kq with
   | zero => exact absurd HA.out (by simp [span_end.j0])
   | succ kj2 =>
    have H := HA.out
    clear HA
    simp only [span_end.j0] at H
    by_cases c8 : x19_2 = true
    ·subst c8
     have H1 : (some (0, false)) = some (r1, r2) := by rw [if_pos rfl] at H; exact H
     clear H
     have H := H1
     clear H1
     simp only [Option.some.injEq, Prod.mk.injEq] at H
     obtain ⟨rfl, rfl⟩ := H
     go_wp2
     go_ret2
     exact ⟨by first | rfl | (simp; done) | (simp [*]; done), by repeat (first | exact Drawn0.refl _ | apply Drawn0.step)⟩
    ·replace c8 := Bool.eq_false_iff.mpr c8
     subst c8
     have H1 : (span_end.l0 kj2 a0 0 (a0.size : Int) 0) = some (r1, r2) := by rw [if_neg (show ¬ (false = true) by decide)] at H; exact H
     clear H
     have H := H1
     clear H1
     have H' := Aside0.mk H
     clear H
     go_wp2
     go_loopg [4, 22] kj2 (fun kq v4 v22 w' => ∃ (x4_2 : Int) (x22_2 : Int), v4 = .int .i64 x4_2 ∧ v22 = .int .i64 x22_2 ∧ Aside0 (span_end.l0 kq a0 x4_2 (a0.size : Int) x22_2 = some (r1, r2)) ∧ Aside0 (kq ≤ kj2) ∧ Drawn0 w w')
     case atStart => exact ⟨(0), (0), (by first | rfl | (simp; done) | (simp [*]; done)), (by first | rfl | (simp; done) | (simp [*]; done)), H', ⟨Nat.le_refl _⟩, by repeat (first | exact Drawn0.refl _ | apply Drawn0.step)⟩
     case round =>
      clear H'
      try clear c2
      try clear c2b0
      try clear c2b1
      try clear p2
      try clear c4
      try clear c4b0
      try clear c4b1
      try clear c5
      try clear c5b0
      try clear c5b1
      try clear p6
      try clear q6
      try clear hx6
      try clear qi6
      try clear c7
      try clear c7b0
      try clear c7b1
      try clear c8
      try clear p2
      try clear p6
      try clear q6
      obtain ⟨x4_2, x22_2, rfl, rfl, HA, HK2, ⟨m2, rfl⟩⟩ := hrel
      cases gk with
      | zero => exact absurd HA.out (by simp [span_end.l0])
      | succ k2 =>
       have H := HA.out
       clear HA
       simp only [span_end.l0] at H
       by_cases c9 : x22_2 < (a0.size : Int)
       ·rw [if_pos c9] at H
        have c9b0 : decide (x22_2 < (a0.size : Int)) = true := decide_eq_true c9
        clear c9
        by_cases c10 : 0 ≤ x22_2
        ·rw [if_pos c10] at H
         have c10b0 : decide (0 ≤ x22_2) = true := decide_eq_true c10
         clear c10
         by_cases c11 : x22_2 < (a0.size : Int)
         ·rw [if_pos c11] at H
          have c11b0 : decide (x22_2 < (a0.size : Int)) = true := decide_eq_true c11
          clear c11
          by_cases c13 : (bt a0 x22_2) < 48
          ·rw [if_pos c13] at H
           have c13b0 : decide ((bt a0 x22_2) < 48) = true := decide_eq_true c13
           clear c13
           simp only [Option.some.injEq, Prod.mk.injEq] at H
           obtain ⟨rfl, rfl⟩ := H
           have p12 : 0 ≤ (x22_2 : Int) := of_decide_eq_true (by first | (with_reducible assumption) | assumption)
           have q12 : x22_2 < (a0.size : Int) := of_decide_eq_true (by first | (with_reducible assumption) | assumption)
           have hx12 := bt_at a0 x22_2
           replace p12 := eq_true p12
           replace q12 := eq_true q12
           go_wp2
           go_ret2
           exact ⟨by first | rfl | (simp; done) | (simp [*]; done), by repeat (first | exact Drawn0.refl _ | apply Drawn0.step)⟩
          ·rw [if_neg c13] at H
           have c13b0 : decide ((bt a0 x22_2) < 48) = false := decide_eq_false c13
           clear c13
           by_cases c15 : (bt a0 x22_2) > 57
           ·rw [if_pos c15] at H
            have c15b0 : decide (57 < (bt a0 x22_2)) = true := decide_eq_true c15
            clear c15
            simp only [Option.some.injEq, Prod.mk.injEq] at H
            obtain ⟨rfl, rfl⟩ := H
            have p12 : 0 ≤ (x22_2 : Int) := of_decide_eq_true (by first | (with_reducible assumption) | assumption)
            have q12 : x22_2 < (a0.size : Int) := of_decide_eq_true (by first | (with_reducible assumption) | assumption)
            have hx12 := bt_at a0 x22_2
            replace p12 := eq_true p12
            replace q12 := eq_true q12
            have p14 : 0 ≤ (x22_2 : Int) := of_decide_eq_true (by first | (with_reducible assumption) | assumption)
            have q14 : x22_2 < (a0.size : Int) := of_decide_eq_true (by first | (with_reducible assumption) | assumption)
            have hx14 := bt_at a0 x22_2
            replace p14 := eq_true p14
            replace q14 := eq_true q14
            go_wp2
            go_ret2
            exact ⟨by first | rfl | (simp; done) | (simp [*]; done), by repeat (first | exact Drawn0.refl _ | apply Drawn0.step)⟩
           ·rw [if_neg c15] at H
            have c15b0 : decide (57 < (bt a0 x22_2)) = false := decide_eq_false c15
            clear c15
            have H' := Aside0.mk H
            clear H
            have p12 : 0 ≤ (x22_2 : Int) := of_decide_eq_true (by first | (with_reducible assumption) | assumption)
            have q12 : x22_2 < (a0.size : Int) := of_decide_eq_true (by first | (with_reducible assumption) | assumption)
            have hx12 := bt_at a0 x22_2
            replace p12 := eq_true p12
            replace q12 := eq_true q12
            have p14 : 0 ≤ (x22_2 : Int) := of_decide_eq_true (by first | (with_reducible assumption) | assumption)
            have q14 : x22_2 < (a0.size : Int) := of_decide_eq_true (by first | (with_reducible assumption) | assumption)
            have hx14 := bt_at a0 x22_2
            replace p14 := eq_true p14
            replace q14 := eq_true q14
            have p16 : 0 ≤ (x22_2 : Int) := of_decide_eq_true (by first | (with_reducible assumption) | assumption)
            have q16 : x22_2 < (a0.size : Int) := of_decide_eq_true (by first | (with_reducible assumption) | assumption)
            have hx16 := bt_at a0 x22_2
            replace p16 := eq_true p16
            replace q16 := eq_true q16
            go_wp2
            go_roundg k2
            case measure => have := HJ2.out; have := HK2.out; omega
            case rel => exact ⟨(wrap64 ((wrap64 (10 * x4_2)) + (((bt a0 x22_2) - 48) % 256))), (wrap64 (x22_2 + 1)), (by first | rfl | (simp; done) | (simp [*]; done)), (by first | rfl | (simp; done) | (simp [*]; done)), H', ⟨by have := HJ2.out; have := HK2.out; omega⟩, by repeat (first | exact Drawn0.refl _ | apply Drawn0.step)⟩
         ·rw [if_neg c11] at H
          exact absurd H (by simp)
        ·rw [if_neg c10] at H
         exact absurd H (by simp)
       ·rw [if_neg c9] at H
        have c9b0 : decide (x22_2 < (a0.size : Int)) = false := decide_eq_false c9
        clear c9
        simp only [Option.some.injEq, Prod.mk.injEq] at H
        obtain ⟨rfl, rfl⟩ := H
        go_wp2
        go_ret2
        exact ⟨by first | rfl | (simp; done) | (simp [*]; done), by repeat (first | exact Drawn0.refl _ | apply Drawn0.step)⟩
end Go.Proofs.YtidcchopmbodkaaDoor.Sp
