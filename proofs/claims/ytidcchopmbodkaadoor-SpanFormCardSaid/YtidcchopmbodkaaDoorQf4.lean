import Derived.Test.YtidcchopmbodkaaDoorQf2
import Derived.Test.YtidcchopmbodkaaDoorQf3
import Derived.Deep.RegionHeld3
import Derived.Lib.Hide
section
namespace Go.Proofs.YtidcchopmbodkaaDoor.Sp
open Go.RowKit Go.Proofs.YtidcchopmbodkaaDoorW.PrintWords Go.Proofs.YtidcchopmbodkaaDoorW.PrintLast Go.Proofs.YtidcchopmbodkaaDoorW.PrintMore
attribute [local go_sem] max2_int min2_int max_two min_two max_three min_three max_four min_four   -- for this text's walks alone
set_option linter.unusedVariables false
set_option linter.unusedSimpArgs false
def postbaglaw4_rises.l0 : Nat → List (S28) → Int → Option (Bool)
 | 0, _, _ => none
 | k + 1, x0, x3 => if x3 < (x0.length : Int) then (if 0 ≤ x3 then (if ((rd_T28 x0 x3).f0) < 1 then (some false) else (if ((rd_T28 x0 x3).f1) < ((rd_T28 x0 x3).f0) then (some false) else (if ((rd_T28 x0 x3).f1) > 4294967295 then (some false) else (if x3 > 0 then (if 0 ≤ (wrap64 (x3 - 1)) then (if (wrap64 (x3 - 1)) < (x0.length : Int) then (if ((rd_T28 x0 x3).f0) ≤ (wrap64 (((rd_T28 x0 (wrap64 (x3 - 1))).f1) + 1)) then (some false) else (postbaglaw4_rises.l0 k x0 (wrap64 (x3 + 1)))) else (none)) else (none)) else (postbaglaw4_rises.l0 k x0 (wrap64 (x3 + 1))))))) else (none)) else (some true)
def postbaglaw4_rises.f (k : Nat) (l0 : List (S28)) : Option (Bool) := postbaglaw4_rises.l0 k l0 0
set_option maxHeartbeats 8000000 in
set_option maxRecDepth 100000 in
theorem postbaglaw4_rises.calls (k : Nat) (A0 : Option Addr) (c0 : Nat) (l0 : List (S28)) (r : Bool) (w : World) (hr0 : Kd.C k28 w A0 l0.length l0) (hc0 : l0.length ≤ c0) (h : postbaglaw4_rises.f k l0 = some r) :
  Calls Tryd.prog 16 #[.slice A0 l0.length c0] w fun e w' => e = .returned (.bool r) ∧ Drawn0 w w' := by
 have HR0 := Aside0.mk hr0
 have HC0 := Aside0.mk hc0
 clear hr0 hc0
 have H : (postbaglaw4_rises.l0 k l0 0) = some r := h
 clear h
 have H' := Aside0.mk H
 clear H
 go_enter Tryd.func16, Tryd.ntmps16
 go_wp2
 repeat (go_quiet (fail); try go_wp2)
 go_loopg [3] k (fun kq v3 w' => ∃ (x3_1 : Int), v3 = .int .i64 x3_1 ∧ Aside0 (postbaglaw4_rises.l0 kq l0 x3_1 = some r) ∧ Aside0 (kq ≤ k) ∧ Drawn0 w w')
 case atStart => exact ⟨(0), (by first | rfl | (simp; done) | (simp [*]; done)), H', ⟨Nat.le_refl _⟩, by repeat (first | exact Drawn0.refl _ | apply Drawn0.step)⟩
 case round =>
  clear H'
  try clear c1
  obtain ⟨x3_1, rfl, HA, HK1, ⟨m1, rfl⟩⟩ := hrel
  cases gk with
  | zero => exact absurd HA.out (by simp [postbaglaw4_rises.l0])
  | succ k1 =>
   have H := HA.out
   clear HA
   simp only [postbaglaw4_rises.l0] at H
   by_cases c2 : x3_1 < (l0.length : Int)
   ·rw [if_pos c2] at H
    have c2b0 : decide (x3_1 < (l0.length : Int)) = true := decide_eq_true c2
    clear c2
    by_cases c3 : 0 ≤ x3_1
    ·rw [if_pos c3] at H
     have c3b0 : decide (0 ≤ x3_1) = true := decide_eq_true c3
     clear c3
     by_cases c4 : ((rd_T28 l0 x3_1).f0) < 1
     ·rw [if_pos c4] at H
      have c4b0 : decide (((rd_T28 l0 x3_1).f0) < 1) = true := decide_eq_true c4
      clear c4
      obtain rfl := Option.some.inj H
      have p108 : 0 ≤ (x3_1 : Int) := of_decide_eq_true (by first | (with_reducible assumption) | assumption)
      have q108 : x3_1 < (l0.length : Int) := of_decide_eq_true (by first | (with_reducible assumption) | assumption)
      obtain ⟨ad108, e108, hx108_0, hx108_1⟩ := at_T28 HR0.out x3_1 p108 q108
      cases e108
      replace p108 := eq_true p108
      replace q108 := eq_true q108
      go_wp2
      repeat (go_quiet (fail); try go_wp2)
      go_ret
      exact ⟨by first | rfl | (simp; done) | (simp [*]; done), by repeat (first | exact Drawn0.refl _ | apply Drawn0.step)⟩
     ·rw [if_neg c4] at H
      have c4b0 : decide (((rd_T28 l0 x3_1).f0) < 1) = false := decide_eq_false c4
      clear c4
      by_cases c5 : ((rd_T28 l0 x3_1).f1) < ((rd_T28 l0 x3_1).f0)
      ·rw [if_pos c5] at H
       have c5b0 : decide (((rd_T28 l0 x3_1).f1) < ((rd_T28 l0 x3_1).f0)) = true := decide_eq_true c5
       clear c5
       obtain rfl := Option.some.inj H
       have p108 : 0 ≤ (x3_1 : Int) := of_decide_eq_true (by first | (with_reducible assumption) | assumption)
       have q108 : x3_1 < (l0.length : Int) := of_decide_eq_true (by first | (with_reducible assumption) | assumption)
       obtain ⟨ad108, e108, hx108_0, hx108_1⟩ := at_T28 HR0.out x3_1 p108 q108
       cases e108
       replace p108 := eq_true p108
       replace q108 := eq_true q108
       have p109 : 0 ≤ (x3_1 : Int) := of_decide_eq_true (by first | (with_reducible assumption) | assumption)
       have q109 : x3_1 < (l0.length : Int) := of_decide_eq_true (by first | (with_reducible assumption) | assumption)
       obtain ⟨ad109, e109, hx109_0, hx109_1⟩ := at_T28 HR0.out x3_1 p109 q109
       obtain rfl : ad108 = ad109 := (by injection e109)
       replace p109 := eq_true p109
       replace q109 := eq_true q109
       have p110 : 0 ≤ (x3_1 : Int) := of_decide_eq_true (by first | (with_reducible assumption) | assumption)
       have q110 : x3_1 < (l0.length : Int) := of_decide_eq_true (by first | (with_reducible assumption) | assumption)
       obtain ⟨ad110, e110, hx110_0, hx110_1⟩ := at_T28 HR0.out x3_1 p110 q110
       obtain rfl : ad108 = ad110 := (by injection e110)
       replace p110 := eq_true p110
       replace q110 := eq_true q110
       go_wp2
       repeat (go_quiet (fail); try go_wp2)
       go_ret
       exact ⟨by first | rfl | (simp; done) | (simp [*]; done), by repeat (first | exact Drawn0.refl _ | apply Drawn0.step)⟩
      ·rw [if_neg c5] at H
       have c5b0 : decide (((rd_T28 l0 x3_1).f1) < ((rd_T28 l0 x3_1).f0)) = false := decide_eq_false c5
       clear c5
       by_cases c6 : ((rd_T28 l0 x3_1).f1) > 4294967295
       ·rw [if_pos c6] at H
        have c6b0 : decide (4294967295 < ((rd_T28 l0 x3_1).f1)) = true := decide_eq_true c6
        clear c6
        obtain rfl := Option.some.inj H
        have p108 : 0 ≤ (x3_1 : Int) := of_decide_eq_true (by first | (with_reducible assumption) | assumption)
        have q108 : x3_1 < (l0.length : Int) := of_decide_eq_true (by first | (with_reducible assumption) | assumption)
        obtain ⟨ad108, e108, hx108_0, hx108_1⟩ := at_T28 HR0.out x3_1 p108 q108
        cases e108
        replace p108 := eq_true p108
        replace q108 := eq_true q108
        have p109 : 0 ≤ (x3_1 : Int) := of_decide_eq_true (by first | (with_reducible assumption) | assumption)
        have q109 : x3_1 < (l0.length : Int) := of_decide_eq_true (by first | (with_reducible assumption) | assumption)
        obtain ⟨ad109, e109, hx109_0, hx109_1⟩ := at_T28 HR0.out x3_1 p109 q109
        obtain rfl : ad108 = ad109 := (by injection e109)
        replace p109 := eq_true p109
        replace q109 := eq_true q109
        have p110 : 0 ≤ (x3_1 : Int) := of_decide_eq_true (by first | (with_reducible assumption) | assumption)
        have q110 : x3_1 < (l0.length : Int) := of_decide_eq_true (by first | (with_reducible assumption) | assumption)
        obtain ⟨ad110, e110, hx110_0, hx110_1⟩ := at_T28 HR0.out x3_1 p110 q110
        obtain rfl : ad108 = ad110 := (by injection e110)
        replace p110 := eq_true p110
        replace q110 := eq_true q110
        have p111 : 0 ≤ (x3_1 : Int) := of_decide_eq_true (by first | (with_reducible assumption) | assumption)
        have q111 : x3_1 < (l0.length : Int) := of_decide_eq_true (by first | (with_reducible assumption) | assumption)
        obtain ⟨ad111, e111, hx111_0, hx111_1⟩ := at_T28 HR0.out x3_1 p111 q111
        obtain rfl : ad108 = ad111 := (by injection e111)
        replace p111 := eq_true p111
        replace q111 := eq_true q111
        go_wp2
        repeat (go_quiet (fail); try go_wp2)
        go_ret
        exact ⟨by first | rfl | (simp; done) | (simp [*]; done), by repeat (first | exact Drawn0.refl _ | apply Drawn0.step)⟩
       ·rw [if_neg c6] at H
        have c6b0 : decide (4294967295 < ((rd_T28 l0 x3_1).f1)) = false := decide_eq_false c6
        clear c6
        by_cases c7 : x3_1 > 0
        ·rw [if_pos c7] at H
         have c7b0 : decide (0 < x3_1) = true := decide_eq_true c7
         clear c7
         obtain ⟨ji8, hji8⟩ : ∃ j_ : Int, (wrap64 (x3_1 - 1)) = j_ := ⟨_, rfl⟩
         replace H : (if 0 ≤ (ji8) then (if (ji8) < (l0.length : Int) then (if ((rd_T28 l0 x3_1).f0) ≤ (wrap64 (((rd_T28 l0 (ji8)).f1) + 1)) then (some false) else (postbaglaw4_rises.l0 k1 l0 (wrap64 (x3_1 + 1)))) else (none)) else (none)) = some r := by first | (rw [hji8] at H; exact H) | (simp only [hji8] at H ⊢; exact H)
         have hji8w : (IntKind.i64.wrap (x3_1 - 1)) = ji8 := (i64_w _).trans hji8
         by_cases c9 : 0 ≤ (ji8)
         ·rw [if_pos c9] at H
          have c9b0 : decide (0 ≤ (ji8)) = true := decide_eq_true c9
          clear c9
          by_cases c10 : (ji8) < (l0.length : Int)
          ·rw [if_pos c10] at H
           have c10b0 : decide ((ji8) < (l0.length : Int)) = true := decide_eq_true c10
           clear c10
           by_cases c11 : ((rd_T28 l0 x3_1).f0) ≤ (wrap64 (((rd_T28 l0 (ji8)).f1) + 1))
           ·rw [if_pos c11] at H
            have c11b0 : decide (((rd_T28 l0 x3_1).f0) ≤ (wrap64 (((rd_T28 l0 (ji8)).f1) + 1))) = true := decide_eq_true c11
            clear c11
            obtain rfl := Option.some.inj H
            have p108 : 0 ≤ (x3_1 : Int) := of_decide_eq_true (by first | (with_reducible assumption) | assumption)
            have q108 : x3_1 < (l0.length : Int) := of_decide_eq_true (by first | (with_reducible assumption) | assumption)
            obtain ⟨ad108, e108, hx108_0, hx108_1⟩ := at_T28 HR0.out x3_1 p108 q108
            cases e108
            replace p108 := eq_true p108
            replace q108 := eq_true q108
            have p109 : 0 ≤ (x3_1 : Int) := of_decide_eq_true (by first | (with_reducible assumption) | assumption)
            have q109 : x3_1 < (l0.length : Int) := of_decide_eq_true (by first | (with_reducible assumption) | assumption)
            obtain ⟨ad109, e109, hx109_0, hx109_1⟩ := at_T28 HR0.out x3_1 p109 q109
            obtain rfl : ad108 = ad109 := (by injection e109)
            replace p109 := eq_true p109
            replace q109 := eq_true q109
            have p110 : 0 ≤ (x3_1 : Int) := of_decide_eq_true (by first | (with_reducible assumption) | assumption)
            have q110 : x3_1 < (l0.length : Int) := of_decide_eq_true (by first | (with_reducible assumption) | assumption)
            obtain ⟨ad110, e110, hx110_0, hx110_1⟩ := at_T28 HR0.out x3_1 p110 q110
            obtain rfl : ad108 = ad110 := (by injection e110)
            replace p110 := eq_true p110
            replace q110 := eq_true q110
            have p111 : 0 ≤ (x3_1 : Int) := of_decide_eq_true (by first | (with_reducible assumption) | assumption)
            have q111 : x3_1 < (l0.length : Int) := of_decide_eq_true (by first | (with_reducible assumption) | assumption)
            obtain ⟨ad111, e111, hx111_0, hx111_1⟩ := at_T28 HR0.out x3_1 p111 q111
            obtain rfl : ad108 = ad111 := (by injection e111)
            replace p111 := eq_true p111
            replace q111 := eq_true q111
            have p112 : 0 ≤ (x3_1 : Int) := of_decide_eq_true (by first | (with_reducible assumption) | assumption)
            have q112 : x3_1 < (l0.length : Int) := of_decide_eq_true (by first | (with_reducible assumption) | assumption)
            obtain ⟨ad112, e112, hx112_0, hx112_1⟩ := at_T28 HR0.out x3_1 p112 q112
            obtain rfl : ad108 = ad112 := (by injection e112)
            replace p112 := eq_true p112
            replace q112 := eq_true q112
            have p113 : 0 ≤ ((ji8) : Int) := of_decide_eq_true (by first | (with_reducible assumption) | assumption)
            have q113 : (ji8) < (l0.length : Int) := of_decide_eq_true (by first | (with_reducible assumption) | assumption)
            obtain ⟨ad113, e113, hx113_0, hx113_1⟩ := at_T28 HR0.out (ji8) p113 q113
            obtain rfl : ad108 = ad113 := (by injection e113)
            replace p113 := eq_true p113
            replace q113 := eq_true q113
            go_wp2
            repeat (go_quiet (fail); try go_wp2)
            go_ret
            exact ⟨by first | rfl | (simp; done) | (simp only [← hji8] <;> (first | rfl | simp)) | (simp [*]; done), by repeat (first | exact Drawn0.refl _ | apply Drawn0.step)⟩
           ·rw [if_neg c11] at H
            have c11b0 : decide (((rd_T28 l0 x3_1).f0) ≤ (wrap64 (((rd_T28 l0 (ji8)).f1) + 1))) = false := decide_eq_false c11
            clear c11
            have H' := Aside0.mk H
            clear H
            have p108 : 0 ≤ (x3_1 : Int) := of_decide_eq_true (by first | (with_reducible assumption) | assumption)
            have q108 : x3_1 < (l0.length : Int) := of_decide_eq_true (by first | (with_reducible assumption) | assumption)
            obtain ⟨ad108, e108, hx108_0, hx108_1⟩ := at_T28 HR0.out x3_1 p108 q108
            cases e108
            replace p108 := eq_true p108
            replace q108 := eq_true q108
            have p109 : 0 ≤ (x3_1 : Int) := of_decide_eq_true (by first | (with_reducible assumption) | assumption)
            have q109 : x3_1 < (l0.length : Int) := of_decide_eq_true (by first | (with_reducible assumption) | assumption)
            obtain ⟨ad109, e109, hx109_0, hx109_1⟩ := at_T28 HR0.out x3_1 p109 q109
            obtain rfl : ad108 = ad109 := (by injection e109)
            replace p109 := eq_true p109
            replace q109 := eq_true q109
            have p110 : 0 ≤ (x3_1 : Int) := of_decide_eq_true (by first | (with_reducible assumption) | assumption)
            have q110 : x3_1 < (l0.length : Int) := of_decide_eq_true (by first | (with_reducible assumption) | assumption)
            obtain ⟨ad110, e110, hx110_0, hx110_1⟩ := at_T28 HR0.out x3_1 p110 q110
            obtain rfl : ad108 = ad110 := (by injection e110)
            replace p110 := eq_true p110
            replace q110 := eq_true q110
            have p111 : 0 ≤ (x3_1 : Int) := of_decide_eq_true (by first | (with_reducible assumption) | assumption)
            have q111 : x3_1 < (l0.length : Int) := of_decide_eq_true (by first | (with_reducible assumption) | assumption)
            obtain ⟨ad111, e111, hx111_0, hx111_1⟩ := at_T28 HR0.out x3_1 p111 q111
            obtain rfl : ad108 = ad111 := (by injection e111)
            replace p111 := eq_true p111
            replace q111 := eq_true q111
            have p112 : 0 ≤ (x3_1 : Int) := of_decide_eq_true (by first | (with_reducible assumption) | assumption)
            have q112 : x3_1 < (l0.length : Int) := of_decide_eq_true (by first | (with_reducible assumption) | assumption)
            obtain ⟨ad112, e112, hx112_0, hx112_1⟩ := at_T28 HR0.out x3_1 p112 q112
            obtain rfl : ad108 = ad112 := (by injection e112)
            replace p112 := eq_true p112
            replace q112 := eq_true q112
            have p113 : 0 ≤ ((ji8) : Int) := of_decide_eq_true (by first | (with_reducible assumption) | assumption)
            have q113 : (ji8) < (l0.length : Int) := of_decide_eq_true (by first | (with_reducible assumption) | assumption)
            obtain ⟨ad113, e113, hx113_0, hx113_1⟩ := at_T28 HR0.out (ji8) p113 q113
            obtain rfl : ad108 = ad113 := (by injection e113)
            replace p113 := eq_true p113
            replace q113 := eq_true q113
            go_wp2
            repeat (go_quiet (fail); try go_wp2)
            go_roundg k1
            case measure => have := HK1.out; omega
            case rel => exact ⟨(wrap64 (x3_1 + 1)), (by first | rfl | (simp; done) | (simp [*]; done)), H', ⟨by have := HK1.out; omega⟩, by repeat (first | exact Drawn0.refl _ | apply Drawn0.step)⟩
          ·rw [if_neg c10] at H
           exact absurd H (by simp)
         ·rw [if_neg c9] at H
          exact absurd H (by simp)
        ·rw [if_neg c7] at H
         have c7b0 : decide (0 < x3_1) = false := decide_eq_false c7
         clear c7
         have H' := Aside0.mk H
         clear H
         have p108 : 0 ≤ (x3_1 : Int) := of_decide_eq_true (by first | (with_reducible assumption) | assumption)
         have q108 : x3_1 < (l0.length : Int) := of_decide_eq_true (by first | (with_reducible assumption) | assumption)
         obtain ⟨ad108, e108, hx108_0, hx108_1⟩ := at_T28 HR0.out x3_1 p108 q108
         cases e108
         replace p108 := eq_true p108
         replace q108 := eq_true q108
         have p109 : 0 ≤ (x3_1 : Int) := of_decide_eq_true (by first | (with_reducible assumption) | assumption)
         have q109 : x3_1 < (l0.length : Int) := of_decide_eq_true (by first | (with_reducible assumption) | assumption)
         obtain ⟨ad109, e109, hx109_0, hx109_1⟩ := at_T28 HR0.out x3_1 p109 q109
         obtain rfl : ad108 = ad109 := (by injection e109)
         replace p109 := eq_true p109
         replace q109 := eq_true q109
         have p110 : 0 ≤ (x3_1 : Int) := of_decide_eq_true (by first | (with_reducible assumption) | assumption)
         have q110 : x3_1 < (l0.length : Int) := of_decide_eq_true (by first | (with_reducible assumption) | assumption)
         obtain ⟨ad110, e110, hx110_0, hx110_1⟩ := at_T28 HR0.out x3_1 p110 q110
         obtain rfl : ad108 = ad110 := (by injection e110)
         replace p110 := eq_true p110
         replace q110 := eq_true q110
         have p111 : 0 ≤ (x3_1 : Int) := of_decide_eq_true (by first | (with_reducible assumption) | assumption)
         have q111 : x3_1 < (l0.length : Int) := of_decide_eq_true (by first | (with_reducible assumption) | assumption)
         obtain ⟨ad111, e111, hx111_0, hx111_1⟩ := at_T28 HR0.out x3_1 p111 q111
         obtain rfl : ad108 = ad111 := (by injection e111)
         replace p111 := eq_true p111
         replace q111 := eq_true q111
         go_wp2
         repeat (go_quiet (fail); try go_wp2)
         go_roundg k1
         case measure => have := HK1.out; omega
         case rel => exact ⟨(wrap64 (x3_1 + 1)), (by first | rfl | (simp; done) | (simp [*]; done)), H', ⟨by have := HK1.out; omega⟩, by repeat (first | exact Drawn0.refl _ | apply Drawn0.step)⟩
    ·rw [if_neg c3] at H
     exact absurd H (by simp)
   ·rw [if_neg c2] at H
    have c2b0 : decide (x3_1 < (l0.length : Int)) = false := decide_eq_false c2
    clear c2
    obtain rfl := Option.some.inj H
    go_wp2
    repeat (go_quiet (fail); try go_wp2)
    go_ret
    exact ⟨by first | rfl | (simp; done) | (simp [*]; done), by repeat (first | exact Drawn0.refl _ | apply Drawn0.step)⟩
end Go.Proofs.YtidcchopmbodkaaDoor.Sp
end
section
namespace Go.Proofs.YtidcchopmbodkaaDoor.Sp
open Go.RowKit Go.Proofs.YtidcchopmbodkaaDoorW.PrintWords Go.Proofs.YtidcchopmbodkaaDoorW.PrintLast Go.Proofs.YtidcchopmbodkaaDoorW.PrintMore
attribute [local go_sem] max2_int min2_int max_two min_two max_three min_three max_four min_four   -- for this text's walks alone
set_option linter.unusedVariables false
set_option linter.unusedSimpArgs false
attribute [local go_sem high] eqA28
def postbaglaw4_same.l0 : Nat → List (S28) → List (S28) → Int → Option (Bool)
 | 0, _, _, _ => none
 | k + 1, x0, x1, x5 => if x5 < (x0.length : Int) then (if 0 ≤ x5 then (if x5 < (x1.length : Int) then (if (!(((rd_T28 x0 x5).f0) == ((rd_T28 x1 x5).f0)) || (!(((rd_T28 x0 x5).f1) == ((rd_T28 x1 x5).f1)))) = true then (some false) else (postbaglaw4_same.l0 k x0 x1 (wrap64 (x5 + 1)))) else (none)) else (none)) else (some true)
def postbaglaw4_same.f (k : Nat) (l0 : List (S28)) (l1 : List (S28)) : Option (Bool) := if (l0.length : Int) = (l1.length : Int) then (postbaglaw4_same.l0 k l0 l1 0) else (some false)
set_option maxHeartbeats 8000000 in
set_option maxRecDepth 100000 in
theorem postbaglaw4_same.calls (k : Nat) (A0 : Option Addr) (c0 : Nat) (l0 : List (S28)) (A1 : Option Addr) (c1 : Nat) (l1 : List (S28)) (r : Bool) (w : World) (hr0 : Kd.C k28 w A0 l0.length l0) (hc0 : l0.length ≤ c0) (hr1 : Kd.C k28 w A1 l1.length l1) (hc1 : l1.length ≤ c1) (h : postbaglaw4_same.f k l0 l1 = some r) :
  Calls Tryd.prog 26 #[.slice A0 l0.length c0, .slice A1 l1.length c1] w fun e w' => e = .returned (.bool r) ∧ Drawn0 w w' := by
 have hu28 := Tryd.underlying28
 have HR0 := Aside0.mk hr0
 have HC0 := Aside0.mk hc0
 clear hr0 hc0
 have HR1 := Aside0.mk hr1
 have HC1 := Aside0.mk hc1
 clear hr1 hc1
 have H : (if (l0.length : Int) = (l1.length : Int) then (postbaglaw4_same.l0 k l0 l1 0) else (some false)) = some r := h
 clear h
 by_cases c3 : (l0.length : Int) = (l1.length : Int)
 ·rw [if_pos c3] at H
  have c3b0 : ((l0.length : Int) == (l1.length : Int)) = true := beq_iff_eq.mpr c3
  have c3b1 : ((l0.length : Int) != (l1.length : Int)) = false := bne_eq_false_iff_eq.mpr c3
  have c3b2 : (l0.length == l1.length) = true := by first | simpa using c3 | (simp at c3 ⊢; omega)
  clear c3
  have H' := Aside0.mk H
  clear H
  go_enter Tryd.func26, Tryd.ntmps26
  go_wp2
  repeat (go_quiet (fail); try go_wp2)
  go_loopg [5] k (fun kq v5 w' => ∃ (x5_1 : Int), v5 = .int .i64 x5_1 ∧ Aside0 (postbaglaw4_same.l0 kq l0 l1 x5_1 = some r) ∧ Aside0 (kq ≤ k) ∧ Drawn0 w w')
  case atStart => exact ⟨(0), (by first | rfl | (simp; done) | (simp [*]; done)), H', ⟨Nat.le_refl _⟩, by repeat (first | exact Drawn0.refl _ | apply Drawn0.step)⟩
  case round =>
   clear H'
   try clear c1
   try clear c2
   try clear p2
   try clear c3
   try clear c3b0
   try clear c3b1
   try clear c3b2
   obtain ⟨x5_1, rfl, HA, HK1, ⟨m1, rfl⟩⟩ := hrel
   cases gk with
   | zero => exact absurd HA.out (by simp [postbaglaw4_same.l0])
   | succ k1 =>
    have H := HA.out
    clear HA
    simp only [postbaglaw4_same.l0] at H
    by_cases c4 : x5_1 < (l0.length : Int)
    ·rw [if_pos c4] at H
     have c4b0 : decide (x5_1 < (l0.length : Int)) = true := decide_eq_true c4
     clear c4
     by_cases c5 : 0 ≤ x5_1
     ·rw [if_pos c5] at H
      have c5b0 : decide (0 ≤ x5_1) = true := decide_eq_true c5
      clear c5
      by_cases c6 : x5_1 < (l1.length : Int)
      ·rw [if_pos c6] at H
       have c6b0 : decide (x5_1 < (l1.length : Int)) = true := decide_eq_true c6
       clear c6
       by_cases c7 : (!(((rd_T28 l0 x5_1).f0) == ((rd_T28 l1 x5_1).f0)) || (!(((rd_T28 l0 x5_1).f1) == ((rd_T28 l1 x5_1).f1)))) = true
       ·rw [if_pos c7] at H
        have c7b0 : (!(((rd_T28 l0 x5_1).f0) == ((rd_T28 l1 x5_1).f0)) || (!(((rd_T28 l0 x5_1).f1) == ((rd_T28 l1 x5_1).f1)))) = true := c7
        clear c7
        obtain rfl := Option.some.inj H
        have p145 : 0 ≤ (x5_1 : Int) := of_decide_eq_true (by first | (with_reducible assumption) | assumption)
        have q145 : x5_1 < (l0.length : Int) := of_decide_eq_true (by first | (with_reducible assumption) | assumption)
        obtain ⟨ad145, e145, hx145_0, hx145_1⟩ := at_T28 HR0.out x5_1 p145 q145
        cases e145
        replace p145 := eq_true p145
        replace q145 := eq_true q145
        have p146 : 0 ≤ (x5_1 : Int) := of_decide_eq_true (by first | (with_reducible assumption) | assumption)
        have q146 : x5_1 < (l1.length : Int) := of_decide_eq_true (by first | (with_reducible assumption) | assumption)
        obtain ⟨ad146, e146, hx146_0, hx146_1⟩ := at_T28 HR1.out x5_1 p146 q146
        cases e146
        replace p146 := eq_true p146
        replace q146 := eq_true q146
        go_wp2
        repeat (go_quiet (fail); try go_wp2)
        go_ret
        exact ⟨by first | rfl | (simp; done) | (simp [*]; done), by repeat (first | exact Drawn0.refl _ | apply Drawn0.step)⟩
       ·rw [if_neg c7] at H
        have c7b0 : (!(((rd_T28 l0 x5_1).f0) == ((rd_T28 l1 x5_1).f0)) || (!(((rd_T28 l0 x5_1).f1) == ((rd_T28 l1 x5_1).f1)))) = false := by simpa using c7
        clear c7
        have H' := Aside0.mk H
        clear H
        have p145 : 0 ≤ (x5_1 : Int) := of_decide_eq_true (by first | (with_reducible assumption) | assumption)
        have q145 : x5_1 < (l0.length : Int) := of_decide_eq_true (by first | (with_reducible assumption) | assumption)
        obtain ⟨ad145, e145, hx145_0, hx145_1⟩ := at_T28 HR0.out x5_1 p145 q145
        cases e145
        replace p145 := eq_true p145
        replace q145 := eq_true q145
        have p146 : 0 ≤ (x5_1 : Int) := of_decide_eq_true (by first | (with_reducible assumption) | assumption)
        have q146 : x5_1 < (l1.length : Int) := of_decide_eq_true (by first | (with_reducible assumption) | assumption)
        obtain ⟨ad146, e146, hx146_0, hx146_1⟩ := at_T28 HR1.out x5_1 p146 q146
        cases e146
        replace p146 := eq_true p146
        replace q146 := eq_true q146
        go_wp2
        repeat (go_quiet (fail); try go_wp2)
        go_roundg k1
        case measure => have := HK1.out; omega
        case rel => exact ⟨(wrap64 (x5_1 + 1)), (by first | rfl | (simp; done) | (simp [*]; done)), H', ⟨by have := HK1.out; omega⟩, by repeat (first | exact Drawn0.refl _ | apply Drawn0.step)⟩
      ·rw [if_neg c6] at H
       exact absurd H (by simp)
     ·rw [if_neg c5] at H
      exact absurd H (by simp)
    ·rw [if_neg c4] at H
     have c4b0 : decide (x5_1 < (l0.length : Int)) = false := decide_eq_false c4
     clear c4
     obtain rfl := Option.some.inj H
     go_wp2
     repeat (go_quiet (fail); try go_wp2)
     go_ret
     exact ⟨by first | rfl | (simp; done) | (simp [*]; done), by repeat (first | exact Drawn0.refl _ | apply Drawn0.step)⟩
 ·rw [if_neg c3] at H
  have c3b0 : ((l0.length : Int) == (l1.length : Int)) = false := beq_eq_false_iff_ne.mpr c3
  have c3b1 : ((l0.length : Int) != (l1.length : Int)) = true := bne_iff_ne.mpr c3
  have c3b2 : (l0.length == l1.length) = false := by first | simpa using c3 | (simp at c3 ⊢; omega)
  obtain rfl := Option.some.inj H
  go_enter Tryd.func26, Tryd.ntmps26
  go_wp2
  repeat (go_quiet (fail); try go_wp2)
  go_ret
  exact ⟨by first | rfl | (simp; done) | (simp [*]; done), by repeat (first | exact Drawn0.refl _ | apply Drawn0.step)⟩
end Go.Proofs.YtidcchopmbodkaaDoor.Sp
end
section
namespace Go.Proofs.YtidcchopmbodkaaDoor.Sp
open Go.RowKit Go.Proofs.YtidcchopmbodkaaDoorW.PrintWords
def Safe (P : World → Prop) (W : World) (M : Nat → Prop) : Prop := Foot P W (fun k => ¬ M k)
theorem Safe.now {P : World → Prop} {W : World} {M : Nat → Prop} (h : Safe P W M) : P W := Foot.now h
theorem Safe.step {P : World → Prop} {W W1 : World} {M M1 S : Nat → Prop} (h : Safe P W M) (hk : Kept W W1 S) (hS : ∀ k, S k → M k) (hM : ∀ k, M1 k → M k ∨ W.heap.size ≤ k) : Safe P W1 M1 :=
  Foot.mono (Foot.step (Foot.bound h) (fun k hq hlt => hk.2 k hlt (fun hs => hq.1 (hS k hs)))) (fun k hq h1 => (hM k h1).elim hq.1 (fun h2 => by have := hq.2; omega))
theorem Safe.below {P : World → Prop} {W W1 : World} {M : Nat → Prop} (h : Safe P W M) (hb : Below W.heap.size W W1) : Safe P W1 M :=
  Foot.step h (fun k _ hlt => hb.block k hlt)
theorem Safe.drewN {P : World → Prop} {W : World} {M : Nat → Prop} (h : Safe P W M) (n : Nat) : Safe P (W.drewN n) M := h.below (pw_below_drewN (Below.refl _ _) n)
theorem Safe.drew {P : World → Prop} {W : World} {M : Nat → Prop} (h : Safe P W M) : Safe P W.drew M := h.below (below_drew (Below.refl _ _))
theorem Safe.imp {P Q : World → Prop} {W : World} {M : Nat → Prop} (h : Safe P W M) (hi : ∀ W, P W → Q W) : Safe Q W M := Foot.imp h hi
theorem Safe.blk {W : World} {g : Nat} {o : Obj} {M : Nat → Prop} (h : W.heap[g]? = some o) (hM : ¬ M g) : Safe (fun W => W.heap[g]? = some o) W M :=
  fun _ hW => (hW g hM (blk_lt h)).trans h
def Mset (p : Nat) (vs : List Value) : Nat → Prop := fun k => k = p ∨ ∃ v ∈ vs, v.ownBlock = some k
def Onto (W : World) (v v1 : Value) : Prop := v1.ownBlock = v.ownBlock ∨ ∃ b, v1.ownBlock = some b ∧ W.heap.size ≤ b
theorem Onto.refl (W : World) (v : Value) : Onto W v v := Or.inl rfl
theorem Onto.mono {W W1 : World} {v v1 : Value} (h : Onto W1 v v1) (hle : W.heap.size ≤ W1.heap.size) : Onto W v v1 :=
  h.imp id (fun ⟨b, h1, h2⟩ => ⟨b, h1, Nat.le_trans hle h2⟩)
theorem Mset.one {W : World} {p : Nat} {u u1 : Value} {la lb : List Value} (h : Onto W u u1) : ∀ k, Mset p (la ++ u1 :: lb) k → Mset p (la ++ u :: lb) k ∨ W.heap.size ≤ k := by
  intro k hk
  rcases hk with rfl | ⟨v, hv, ho⟩
  · exact Or.inl (Or.inl rfl)
  · rw [List.mem_append, List.mem_cons] at hv
    rcases hv with hv | rfl | hv
    · exact Or.inl (Or.inr ⟨v, by simp [hv], ho⟩)
    · rcases h with h | ⟨b, h1, h2⟩
      · exact Or.inl (Or.inr ⟨u, by simp, h ▸ ho⟩)
      · rw [h1] at ho
        injection ho with ho
        exact Or.inr (by omega)
    · exact Or.inl (Or.inr ⟨v, by simp [hv], ho⟩)
theorem Mset.base {p B : Nat} {vs : List Value} (hp : B ≤ p) (hv : ∀ v ∈ vs, ∀ k, v.ownBlock = some k → B ≤ k) : ∀ k, Mset p vs k → B ≤ k := by
  rintro k (rfl | ⟨v, hm, ho⟩)
  · exact hp
  · exact hv v hm k ho
structure LS {α : Type} (d : Kd α) (e : Nat) (W : World) (B : Nat) (M : Nat → Prop) (v : Value) (ls : List (List α)) : Prop where
  mem : ∀ k, v.ownBlock = some k → M k
  row : ∃ rows : List (List Value), rows.length = ls.length ∧ (Kd.raw 1).R e W B (fun k => some k = v.ownBlock) v rows ∧
    ∀ (j : Nat) (c : List Value) (l : List α), rows[j]? = some c → ls[j]? = some l → ∃ (A : Option Addr) (cc : Nat), c = [Value.slice A l.length cc] ∧ l.length ≤ cc ∧ Safe (fun W => d.C W A l.length l) W M
section
variable {α : Type} {d : Kd α} {e : Nat} {W W1 : World} {B : Nat} {M M1 S : Nat → Prop} {v : Value} {ls : List (List α)}
theorem LS.nil (d : Kd α) (e : Nat) (W : World) (B : Nat) (M : Nat → Prop) : LS d e W B M (.slice none 0 0) [] :=
  ⟨fun k hk => by simp [Value.ownBlock] at hk, [], rfl, Kd.R_nil _ _ _ _ _, fun j c l hj _ => by simp at hj⟩
theorem LS.step (h : LS d e W B M v ls) (hk : Kept W W1 S) (hS : ∀ k, S k → M k) (hown : ∀ k, v.ownBlock = some k → ¬ S k) (hM : ∀ k, M1 k → M k ∨ W.heap.size ≤ k) (hin : ∀ k, v.ownBlock = some k → M1 k) : LS d e W1 B M1 v ls := by
  obtain ⟨hm, rows, hl, hR, hf⟩ := h
  refine ⟨hin, rows, hl, Kd.R_kept hR hk (fun k hk => hown k hk.symm), fun j c l hj hlj => ?_⟩
  obtain ⟨A, cc, e1, e2, e3⟩ := hf j c l hj hlj
  exact ⟨A, cc, e1, e2, e3.step hk hS hM⟩
theorem LS.below (h : LS d e W B M v ls) (hb : Below W.heap.size W W1) : LS d e W1 B M v ls :=
  h.step (S := fun _ => False) (Kept.of_below hb _) (fun _ hk => hk.elim) (fun _ _ hk => hk) (fun _ hk => Or.inl hk) h.mem
theorem LS.drewN (h : LS d e W B M v ls) (n : Nat) : LS d e (W.drewN n) B M v ls := h.below (pw_below_drewN (Below.refl _ _) n)
theorem LS.slice (h : LS d e W B M v ls) : ∃ A c, v = .slice A ls.length c := by
  obtain ⟨_, rows, hl, hR, _⟩ := h
  rw [← hl]
  exact Kd.R_slice hR
theorem LS.base (h : LS d e W B M v ls) : ∀ k, v.ownBlock = some k → B ≤ k := by
  obtain ⟨_, rows, hl, hR, _⟩ := h
  exact Kd.R_base hR
end
end Go.Proofs.YtidcchopmbodkaaDoor.Sp
end
section
namespace Go.Proofs.YtidcchopmbodkaaDoor.Sp
open Go.RowKit Go.Proofs.YtidcchopmbodkaaDoorW.PrintWords Go.Proofs.YtidcchopmbodkaaDoorW.PrintLast Go.Proofs.YtidcchopmbodkaaDoorW.PrintMore
attribute [local go_sem] max2_int min2_int max_two min_two max_three min_three max_four min_four   -- for this text's walks alone
set_option linter.unusedVariables false
set_option linter.unusedSimpArgs false
def span_Of.l0 : Nat → List (S28) → List Int → List Int → List Int → Int → Int → Option (List Int)
 | 0, _, _, _, _, _, _ => none
 | k + 1, x0, x1, x5, x8, x9, x10 => if x10 < x9 then (if 0 ≤ x10 then (if x10 < (x8.length : Int) then (if 0 ≤ (wrap64 ((x1.length : Int) - 1)) then (if (wrap64 ((x1.length : Int) - 1)) < (x1.length : Int) then ((span_Has.f x0 (rd x8 x10) (rd x1 (wrap64 ((x1.length : Int) - 1)))).bind fun t118 => (if t118 = true then (if x5.length < 17592186044416 then (span_Of.l0 k x0 x1 (x5 ++ [rd x8 x10]) x8 x9 (wrap64 (x10 + 1))) else (none)) else (span_Of.l0 k x0 x1 x5 x8 x9 (wrap64 (x10 + 1))))) else (none)) else (none)) else (none)) else (none)) else (some x5)
def span_Of.f (k : Nat) (l0 : List (S28)) (l1 : List Int) : Option (List Int) := span_Of.l0 k l0 l1 ([] : List Int) l1 (l1.length : Int) 0
set_option maxHeartbeats 8000000 in
set_option maxRecDepth 100000 in
theorem span_Of.calls (k : Nat) (A0 : Option Addr) (c0 : Nat) (l0 : List (S28)) (A1 : Option Addr) (c1 : Nat) (l1 : List Int) (r : List Int) (w : World) (hr0 : Kd.C k28 w A0 l0.length l0) (hc0 : l0.length ≤ c0) (hr1 : Kd.C (Kd.int .i64) w A1 l1.length l1) (hc1 : l1.length ≤ c1) (h : span_Of.f k l0 l1 = some r) :
  Calls Tryd.prog 19 #[.slice A0 l0.length c0, .slice A1 l1.length c1] w fun e w' => ∃ v0_ : Value, e = .returned (v0_) ∧ Kd.R (Kd.int .i64) 3 w' w.heap.size (fun _ => True) v0_ r ∧ Below w.heap.size w w' := by
 have HR0 := Aside0.mk hr0
 have HC0 := Aside0.mk hc0
 clear hr0 hc0
 have HR1 := Aside0.mk hr1
 have HC1 := Aside0.mk hc1
 clear hr1 hc1
 have HB := Aside0.mk (Below.refl w.heap.size w)
 have H : (span_Of.l0 k l0 l1 ([] : List Int) l1 (l1.length : Int) 0) = some r := h
 clear h
 have H' := Aside0.mk H
 clear H
 go_enter Tryd.func19, Tryd.ntmps19
 go_wp2
 go_loopg [5, 10] k (fun kq v5 v10 w' => ∃ (x5_1 : List Int) (x10_1 : Int), v10 = .int .i64 x10_1 ∧ Aside0 (span_Of.l0 kq l0 l1 x5_1 l1 (l1.length : Int) x10_1 = some r) ∧ Aside0 (kq ≤ k) ∧ Aside0 (Kd.R (Kd.int .i64) 3 w' w.heap.size (fun _ => True) v5 x5_1) ∧ Aside0 (Below w.heap.size w w'))
 case atStart => exact ⟨(([] : List Int)), (0), (by first | rfl | (simp; done) | (simp [*]; done)), H', ⟨Nat.le_refl _⟩, ⟨by first | exact Kd.R_nil _ _ _ _ _ | exact Kd.N_nil _ _ _ _ _ | exact Kd.V_nil _ _ _ _ _ | exact Kd.Q_nil _ _ _ _ _ | exact Kd.S_nil _ _ _ _ _⟩, ⟨by repeat (first | (with_reducible first | exact HB.out | apply below_alloc | apply pw_below_drewN | apply below_drew1) | exact HB.out)⟩⟩
 case round =>
  clear H'
  try clear c1
  try clear p2
  obtain ⟨x5_1, x10_1, rfl, HA, HK1, HO_5, HB⟩ := hrel
  cases gk with
  | zero => exact absurd HA.out (by simp [span_Of.l0])
  | succ k1 =>
   have H := HA.out
   clear HA
   simp only [span_Of.l0] at H
   by_cases c3 : x10_1 < (l1.length : Int)
   ·rw [if_pos c3] at H
    have c3b0 : decide (x10_1 < (l1.length : Int)) = true := decide_eq_true c3
    clear c3
    by_cases c4 : 0 ≤ x10_1
    ·rw [if_pos c4] at H
     have c4b0 : decide (0 ≤ x10_1) = true := decide_eq_true c4
     clear c4
     by_cases c5 : x10_1 < (l1.length : Int)
     ·rw [if_pos c5] at H
      have c5b0 : decide (x10_1 < (l1.length : Int)) = true := decide_eq_true c5
      clear c5
      obtain ⟨ji6, hji6⟩ : ∃ j_ : Int, (wrap64 ((l1.length : Int) - 1)) = j_ := ⟨_, rfl⟩
      replace H : (if 0 ≤ (ji6) then (if (ji6) < (l1.length : Int) then ((span_Has.f l0 (rd l1 x10_1) (rd l1 (ji6))).bind fun t118 => (if t118 = true then (if x5_1.length < 17592186044416 then (span_Of.l0 k1 l0 l1 (x5_1 ++ [rd l1 x10_1]) l1 (l1.length : Int) (wrap64 (x10_1 + 1))) else (none)) else (span_Of.l0 k1 l0 l1 x5_1 l1 (l1.length : Int) (wrap64 (x10_1 + 1))))) else (none)) else (none)) = some r := by first | (rw [hji6] at H; exact H) | (simp only [hji6] at H ⊢; exact H)
      have hji6w : (IntKind.i64.wrap ((l1.length : Int) - 1)) = ji6 := (i64_w _).trans hji6
      by_cases c7 : 0 ≤ (ji6)
      ·rw [if_pos c7] at H
       have c7b0 : decide (0 ≤ (ji6)) = true := decide_eq_true c7
       clear c7
       by_cases c8 : (ji6) < (l1.length : Int)
       ·rw [if_pos c8] at H
        have c8b0 : decide ((ji6) < (l1.length : Int)) = true := decide_eq_true c8
        clear c8
        replace H := Option.bind_eq_some_iff.mp H
        obtain ⟨t118, A90, H⟩ := H
        replace H : (if t118 = true then (if x5_1.length < 17592186044416 then (span_Of.l0 k1 l0 l1 (x5_1 ++ [rd l1 x10_1]) l1 (l1.length : Int) (wrap64 (x10_1 + 1))) else (none)) else (span_Of.l0 k1 l0 l1 x5_1 l1 (l1.length : Int) (wrap64 (x10_1 + 1)))) = some r := H
        have A9 := Aside0.mk A90
        clear A90
        by_cases c10 : t118 = true
        ·subst c10
         have H1 : (if x5_1.length < 17592186044416 then (span_Of.l0 k1 l0 l1 (x5_1 ++ [rd l1 x10_1]) l1 (l1.length : Int) (wrap64 (x10_1 + 1))) else (none)) = some r := by rw [if_pos rfl] at H; exact H
         clear H
         have H := H1
         clear H1
         by_cases c11 : x5_1.length < 17592186044416
         ·rw [if_pos c11] at H
          have LMc11 := Aside0.mk c11
          clear c11
          obtain ⟨y119, hy119⟩ : ∃ y_ : List Int, y_ = (x5_1 ++ [rd l1 x10_1]) := ⟨_, rfl⟩
          replace H : (span_Of.l0 k1 l0 l1 y119 l1 (l1.length : Int) (wrap64 (x10_1 + 1))) = some r := by first | (rw [hy119]; with_reducible exact H) | (have H2_ := (Option.bind_some _ _).symm.trans H; rw [hy119]; with_reducible exact H2_) | (have H2_ := (Option.bind_some _ _).symm.trans H; with_reducible exact H2_) | with_reducible exact H | (rw [hy119]; exact H) | exact H
          have Ny119 := Aside0.mk hy119
          clear hy119
          have H' := Aside0.mk H
          clear H
          have p116 : 0 ≤ (x10_1 : Int) := of_decide_eq_true (by first | (with_reducible assumption) | assumption)
          have q116 : x10_1 < (l1.length : Int) := of_decide_eq_true (by first | (with_reducible assumption) | assumption)
          obtain ⟨ad116, e116, hx116_0⟩ := Kd.at_int HR1.out x10_1 p116 q116
          cases e116
          replace hx116_0 := (HB.out.cell (World.block_lt_of_cell? w _ hx116_0)).trans hx116_0
          replace p116 := eq_true p116
          replace q116 := eq_true q116
          have p117 : 0 ≤ ((ji6) : Int) := of_decide_eq_true (by first | (with_reducible assumption) | assumption)
          have q117 : (ji6) < (l1.length : Int) := of_decide_eq_true (by first | (with_reducible assumption) | assumption)
          obtain ⟨ad117, e117, hx117_0⟩ := Kd.at_int HR1.out (ji6) p117 q117
          obtain rfl : ad116 = ad117 := (by injection e117)
          replace hx117_0 := (HB.out.cell (World.block_lt_of_cell? w _ hx117_0)).trans hx117_0
          replace p117 := eq_true p117
          replace q117 := eq_true q117
          go_wp2_with (first | ((with_reducible refine gate_callee (f := 17) rfl ?_); refine goesL_ (some 22) rfl rfl Tryd.func17 (by kernel_rfl) rfl #[.slice A0 l0.length c0, .int .i64 (rd l1 x10_1), .int .i64 (rd l1 (ji6))] rfl (by (try simp only [List.map_toArray, List.map_cons, List.map_nil]); first | done | (simp only [hji6]; rfl) | rfl | (simp only [List.length_drop, List.length_take]; rfl)) ?_; (with_reducible refine (span_Has.calls _ _ l0 (rd l1 x10_1) (rd l1 (ji6)) true _ ?side1 ?side2 A9.out).mono ?_); (case side1 => repeat (first | exact (Kd.C_below HR0.out HB.out) | (with_reducible refine Kd.C_alloc ?_ _) | (with_reducible refine Kd.C_drewN ?_ _) | (with_reducible refine Kd.C_drew ?_))); (case side2 => exact HC0.out); rintro e w12 ⟨rfl, hb⟩; refine ⟨_, rfl, ?_⟩; have n0_ := Aside0.mk (Kd.R_below (by (with_reducible repeat (first | apply Kd.R_alloc | apply Kd.R_drewN | apply Kd.R_drew)); exact HO_5.out) hb); have n1_ := Aside0.mk (below_step (by repeat (first | (with_reducible first | exact HB.out | apply below_alloc | apply pw_below_drewN | apply below_drew1) | exact HB.out)) hb); clear HO_5; clear HB; have HO_5 := n0_; have HB := n1_; clear n0_ n1_; (try clear hb); (try clear hb2); (try clear hk); (try clear hi)) | ((with_reducible refine gate_builtin (b := .append) (xs := #[.tmp 23, .tmp 25]) rfl ?_); at_builtin; refine Kd.R_append (Kd.int .i64) (w0 := w) w.heap.size rfl (.tmp 23) (.tmp 25) 22 3 (.int .i64 0) 8 rfl Tryd.underlying22 info3 rfl (by decide) (by omega) u5 x5_1 (rd l1 x10_1) [.int .i64 (rd l1 x10_1)] (fun _ => True) (fun _ => False) rfl rfl ?aP (fun _ hk => hk.elim) ?aF ?aO ?aB ?aS ?aL ?_; (case aP => exact rfl); (case aB => exact (by repeat (first | (with_reducible first | exact HB.out | apply below_alloc | apply pw_below_drewN | apply below_drew1) | exact HB.out))); (case aF => exact (fun _ _ => trivial)); (case aO => exact (by (with_reducible repeat (first | apply Kd.R_alloc | apply Kd.R_drewN | apply Kd.R_drew)); exact HO_5.out)); (case aS => exact (below_size (by repeat (first | (with_reducible first | exact HB.out | apply below_alloc | apply pw_below_drewN | apply below_drew1) | exact HB.out)))); (case aL => have := LMc11.out; omega); intro v120 w13 ho hb hg hat; rw [← Ny119.out] at ho; have n0_ := Aside0.mk (hb); have n1_ := Aside0.mk (ho); clear HB; clear HO_5; have HB := n0_; have HO121 := n1_; clear n0_ n1_; clear ho hb hg hat))
          go_roundg k1
          case measure => have := HK1.out; omega
          case rel => exact ⟨(y119), (wrap64 (x10_1 + 1)), (by first | rfl | (simp; done) | (simp [*]; done)), H', ⟨by have := HK1.out; omega⟩, ⟨by (with_reducible repeat (first | apply Kd.R_alloc | apply Kd.R_drewN | apply Kd.R_drew)); exact HO121.out⟩, ⟨by repeat (first | (with_reducible first | exact HB.out | apply below_alloc | apply pw_below_drewN | apply below_drew1) | exact HB.out)⟩⟩
         ·rw [if_neg c11] at H
          exact absurd H (by simp)
        ·replace c10 := Bool.eq_false_iff.mpr c10
         subst c10
         have H1 : (span_Of.l0 k1 l0 l1 x5_1 l1 (l1.length : Int) (wrap64 (x10_1 + 1))) = some r := by rw [if_neg (show ¬ (false = true) by decide)] at H; exact H
         clear H
         have H := H1
         clear H1
         have H' := Aside0.mk H
         clear H
         have p116 : 0 ≤ (x10_1 : Int) := of_decide_eq_true (by first | (with_reducible assumption) | assumption)
         have q116 : x10_1 < (l1.length : Int) := of_decide_eq_true (by first | (with_reducible assumption) | assumption)
         obtain ⟨ad116, e116, hx116_0⟩ := Kd.at_int HR1.out x10_1 p116 q116
         cases e116
         replace hx116_0 := (HB.out.cell (World.block_lt_of_cell? w _ hx116_0)).trans hx116_0
         replace p116 := eq_true p116
         replace q116 := eq_true q116
         have p117 : 0 ≤ ((ji6) : Int) := of_decide_eq_true (by first | (with_reducible assumption) | assumption)
         have q117 : (ji6) < (l1.length : Int) := of_decide_eq_true (by first | (with_reducible assumption) | assumption)
         obtain ⟨ad117, e117, hx117_0⟩ := Kd.at_int HR1.out (ji6) p117 q117
         obtain rfl : ad116 = ad117 := (by injection e117)
         replace hx117_0 := (HB.out.cell (World.block_lt_of_cell? w _ hx117_0)).trans hx117_0
         replace p117 := eq_true p117
         replace q117 := eq_true q117
         go_wp2_with (first | ((with_reducible refine gate_callee (f := 17) rfl ?_); refine goesL_ (some 22) rfl rfl Tryd.func17 (by kernel_rfl) rfl #[.slice A0 l0.length c0, .int .i64 (rd l1 x10_1), .int .i64 (rd l1 (ji6))] rfl (by (try simp only [List.map_toArray, List.map_cons, List.map_nil]); first | done | (simp only [hji6]; rfl) | rfl | (simp only [List.length_drop, List.length_take]; rfl)) ?_; (with_reducible refine (span_Has.calls _ _ l0 (rd l1 x10_1) (rd l1 (ji6)) false _ ?side1 ?side2 A9.out).mono ?_); (case side1 => repeat (first | exact (Kd.C_below HR0.out HB.out) | (with_reducible refine Kd.C_alloc ?_ _) | (with_reducible refine Kd.C_drewN ?_ _) | (with_reducible refine Kd.C_drew ?_))); (case side2 => exact HC0.out); rintro e w14 ⟨rfl, hb⟩; refine ⟨_, rfl, ?_⟩; have n0_ := Aside0.mk (Kd.R_below (by (with_reducible repeat (first | apply Kd.R_alloc | apply Kd.R_drewN | apply Kd.R_drew)); exact HO_5.out) hb); have n1_ := Aside0.mk (below_step (by repeat (first | (with_reducible first | exact HB.out | apply below_alloc | apply pw_below_drewN | apply below_drew1) | exact HB.out)) hb); clear HO_5; clear HB; have HO_5 := n0_; have HB := n1_; clear n0_ n1_; (try clear hb); (try clear hb2); (try clear hk); (try clear hi)))
         go_roundg k1
         case measure => have := HK1.out; omega
         case rel => exact ⟨(x5_1), (wrap64 (x10_1 + 1)), (by first | rfl | (simp; done) | (simp [*]; done)), H', ⟨by have := HK1.out; omega⟩, ⟨by (with_reducible repeat (first | apply Kd.R_alloc | apply Kd.R_drewN | apply Kd.R_drew)); exact HO_5.out⟩, ⟨by repeat (first | (with_reducible first | exact HB.out | apply below_alloc | apply pw_below_drewN | apply below_drew1) | exact HB.out)⟩⟩
       ·rw [if_neg c8] at H
        exact absurd H (by simp)
      ·rw [if_neg c7] at H
       exact absurd H (by simp)
     ·rw [if_neg c5] at H
      exact absurd H (by simp)
    ·rw [if_neg c4] at H
     exact absurd H (by simp)
   ·rw [if_neg c3] at H
    have c3b0 : decide (x10_1 < (l1.length : Int)) = false := decide_eq_false c3
    clear c3
    obtain rfl := Option.some.inj H
    go_wp2
    go_ret
    exact ⟨_, by first | rfl | (simp [errW_none, errW_some] <;> rfl) | (simp [*, errW_none, errW_some] <;> rfl), by (with_reducible repeat (first | apply Kd.R_alloc | apply Kd.R_drewN | apply Kd.R_drew)); exact HO_5.out, by repeat (first | (with_reducible first | exact HB.out | apply below_alloc | apply pw_below_drewN | apply below_drew1) | exact HB.out)⟩
end Go.Proofs.YtidcchopmbodkaaDoor.Sp
end
section
namespace Go.Proofs.YtidcchopmbodkaaDoor.Sp
open Go.RowKit Go.Proofs.YtidcchopmbodkaaDoorW.PrintWords Go.Proofs.YtidcchopmbodkaaDoorW.PrintLast Go.Proofs.YtidcchopmbodkaaDoorW.PrintMore
attribute [local go_sem] max2_int min2_int max_two min_two max_three min_three max_four min_four   -- for this text's walks alone
set_option linter.unusedVariables false
set_option linter.unusedSimpArgs false
end Go.Proofs.YtidcchopmbodkaaDoor.Sp
end
section
namespace Go.Proofs.YtidcchopmbodkaaDoor.Sp
open Go.RowKit Go.Proofs.YtidcchopmbodkaaDoorW.PrintWords Go.Proofs.YtidcchopmbodkaaDoorW.PrintLast Go.Proofs.YtidcchopmbodkaaDoorW.PrintMore
open Canon
theorem w64n (i : Nat) (h : i < 4611686018427387904) : wrap64 ((i : Int) + 1) = ((i + 1 : Nat) : Int) := by unfold wrap64; omega
theorem rd_at (l : List Int) (i : Nat) (h : i < l.length) : rd l (i : Int) = l[i] := by
  unfold rd
  rw [List.getD_eq_getElem?_getD, show ((i : Int)).toNat = i from by omega, List.getElem?_eq_getElem h]
  rfl
theorem rd28_at (l : List S28) (i : Nat) (h : i < l.length) : rd_T28 l (i : Int) = l[i] := by
  unfold rd_T28
  rw [List.getD_eq_getElem?_getD, show ((i : Int)).toNat = i from by omega, List.getElem?_eq_getElem h]
  rfl
def okN (n : Int) : Bool := decide (1 ≤ n) && decide (n ≤ 4294967295)
def dup (n : Int) : S28 := ⟨n, n⟩
theorem mn_eq (a b : Int) : mn a b = min a b := by unfold mn; split <;> omega
theorem mx_eq (a b : Int) : mx a b = max a b := by unfold mx; split <;> omega
theorem pr_un (l : List Rg) : (l.map un).map pr = l := by rw [List.map_map]; exact (List.map_congr_left fun x _ => rfl).trans (List.map_id l)
theorem un_pr (l : List S28) : (l.map pr).map un = l := by rw [List.map_map]; exact (List.map_congr_left fun x _ => rfl).trans (List.map_id l)
def leastA (l : List Int) : List S28 := (canon (((l.filter okN).map dup).map pr)).map un
theorem least_l0 (l : List Int) (hl : l.length ≤ 8000000000000) (d : Nat) : ∀ (i k : Nat) (acc : List S28), i + d = l.length → acc.length ≤ i → d < k →
    span_Least.l0 k acc l (l.length : Int) (i : Int) = span_united.f (acc ++ ((l.drop i).filter okN).map dup) := by
  induction d with
  | zero =>
    intro i k acc hi ha hk
    obtain ⟨k, rfl⟩ : ∃ j, k = j + 1 := ⟨k - 1, by omega⟩
    simp only [span_Least.l0]
    rw [if_neg (by omega), List.drop_of_length_le (by omega)]
    simp only [List.filter_nil, List.map_nil, List.append_nil]
    cases span_united.f acc <;> rfl
  | succ d ih =>
    intro i k acc hi ha hk
    obtain ⟨k, rfl⟩ : ∃ j, k = j + 1 := ⟨k - 1, by omega⟩
    simp only [span_Least.l0]
    rw [if_pos (by omega), if_pos (by omega), if_pos (by omega), rd_at l i (by omega), w64n i (by omega), List.drop_eq_getElem_cons (show i < l.length by omega)]
    generalize l[i] = n
    by_cases h1 : n ≥ 1
    · rw [if_pos h1]
      by_cases h2 : n ≤ 4294967295
      · rw [if_pos h2, if_pos (by omega), ih (i + 1) k _ (by omega) (by simp; omega) (by omega)]
        rw [List.filter_cons_of_pos (by simp [okN]; omega), List.map_cons, List.append_assoc]
        rfl
      · rw [if_neg h2, ih (i + 1) k _ (by omega) (by omega) (by omega), List.filter_cons_of_neg (by simp [okN]; omega)]
    · rw [if_neg h1, ih (i + 1) k _ (by omega) (by omega) (by omega), List.filter_cons_of_neg (by simp [okN]; omega)]
theorem least_f (l : List Int) (hl : l.length ≤ 8000000000000) (k : Nat) (hk : l.length < k) : span_Least.f k l = some (leastA l) := by
  unfold span_Least.f
  have := least_l0 l hl l.length 0 k [] (by omega) (by simp) hk
  rw [List.nil_append, List.drop_zero] at this
  refine Eq.trans this ?_
  unfold span_united.f
  rw [if_pos]
  · rfl
  · constructor
    · rw [List.length_map]; have := List.length_filter_le okN l; omega
    · rw [List.all_eq_true]
      intro x hx
      obtain ⟨n, hn, rfl⟩ := List.mem_map.1 hx
      have := (List.mem_filter.1 hn).2
      simp only [okN, Bool.and_eq_true, decide_eq_true_eq] at this
      show (decide (0 ≤ n) && (decide (n ≤ n) && decide (n ≤ 4294967295))) = true
      simp
      omega
theorem same_l0 (a b : List S28) (hab : a.length = b.length) (hl : a.length ≤ 8000000000000) (d : Nat) : ∀ (i k : Nat), i + d = a.length → d < k →
    postbaglaw4_same.l0 k a b (i : Int) = some (decide ((a.drop i).map pr = (b.drop i).map pr)) := by
  induction d with
  | zero =>
    intro i k hi hk
    obtain ⟨k, rfl⟩ : ∃ j, k = j + 1 := ⟨k - 1, by omega⟩
    simp only [postbaglaw4_same.l0]
    rw [if_neg (by omega), List.drop_of_length_le (by omega), List.drop_of_length_le (by omega)]
    simp
  | succ d ih =>
    intro i k hi hk
    obtain ⟨k, rfl⟩ : ∃ j, k = j + 1 := ⟨k - 1, by omega⟩
    simp only [postbaglaw4_same.l0]
    rw [if_pos (by omega), if_pos (by omega), if_pos (by omega), rd28_at a i (by omega), rd28_at b i (by omega), w64n i (by omega), List.drop_eq_getElem_cons (show i < a.length by omega), List.drop_eq_getElem_cons (show i < b.length by omega)]
    generalize a[i] = x
    generalize b[i] = y
    by_cases h : pr x = pr y
    · have h1 : x.f0 = y.f0 := congrArg Prod.fst h
      have h2 : x.f1 = y.f1 := congrArg Prod.snd h
      rw [if_neg (by simp [h1, h2]), ih (i + 1) k (by omega) (by omega)]
      simp [h]
    · rw [if_pos, decide_eq_false]
      · intro e
        rw [List.map_cons, List.map_cons] at e
        exact h (List.cons.inj e).1
      · by_cases h1 : x.f0 = y.f0
        · by_cases h2 : x.f1 = y.f1
          · exact absurd (Prod.ext h1 h2) h
          · simp [h2]
        · simp [h1]
theorem same_f (a b : List S28) (hl : a.length ≤ 8000000000000) (k : Nat) (hk : a.length < k) : postbaglaw4_same.f k a b = some (decide (a.map pr = b.map pr)) := by
  unfold postbaglaw4_same.f
  by_cases h : a.length = b.length
  · rw [if_pos (by omega)]
    exact same_l0 a b h hl a.length 0 k (by omega) hk
  · rw [if_neg (by omega), decide_eq_false]
    intro e
    have := congrArg List.length e
    simp at this
    exact h this
theorem rises_l0 (l : List S28) (hl : l.length ≤ 8000000000000) (hr : Rises (l.map pr)) (hb : ∀ x ∈ l, 1 ≤ x.f0 ∧ x.f1 ≤ 4294967295) (d : Nat) : ∀ (i k : Nat), i + d = l.length → d < k → postbaglaw4_rises.l0 k l (i : Int) = some true := by
  induction d with
  | zero =>
    intro i k hi hk
    obtain ⟨k, rfl⟩ : ∃ j, k = j + 1 := ⟨k - 1, by omega⟩
    simp only [postbaglaw4_rises.l0]
    rw [if_neg (by omega)]
  | succ d ih =>
    intro i k hi hk
    obtain ⟨k, rfl⟩ : ∃ j, k = j + 1 := ⟨k - 1, by omega⟩
    have hil : i < l.length := by omega
    have hx := hb l[i] (List.getElem_mem hil)
    have hx2 : l[i].f0 ≤ l[i].f1 := hr.1 (pr l[i]) (List.mem_map.2 ⟨_, List.getElem_mem hil, rfl⟩)
    simp only [postbaglaw4_rises.l0]
    rw [if_pos (by omega), if_pos (by omega), rd28_at l i hil, w64n i (by omega), if_neg (by omega), if_neg (by omega), if_neg (by omega)]
    by_cases h0 : i = 0
    · rw [if_neg (by omega)]
      exact ih (i + 1) k (by omega) (by omega)
    · have e : wrap64 ((i : Int) - 1) = ((i - 1 : Nat) : Int) := by unfold wrap64; omega
      have hp : i - 1 < l.length := by omega
      have hy := hb l[i - 1] (List.getElem_mem hp)
      have hy2 : l[i - 1].f0 ≤ l[i - 1].f1 := hr.1 (pr l[i - 1]) (List.mem_map.2 ⟨_, List.getElem_mem hp, rfl⟩)
      have hlt : (pr l[i - 1]).2 + 1 < (pr l[i]).1 := by
        have := List.pairwise_iff_getElem.1 hr.2 (i - 1) i (by simpa using hp) (by simpa using hil) (by omega)
        simpa using this
      have hlt' : l[i - 1].f1 + 1 < l[i].f0 := hlt
      rw [if_pos (by omega), e, if_pos (by omega), if_pos (by omega), rd28_at l (i - 1) hp, if_neg (by unfold wrap64; omega)]
      exact ih (i + 1) k (by omega) (by omega)
theorem rises_f (l : List S28) (hl : l.length ≤ 8000000000000) (hr : Rises (l.map pr)) (hb : ∀ x ∈ l, 1 ≤ x.f0 ∧ x.f1 ≤ 4294967295) (k : Nat) (hk : l.length < k) : postbaglaw4_rises.f k l = some true :=
  rises_l0 l hl hr hb l.length 0 k (by omega) hk
end Go.Proofs.YtidcchopmbodkaaDoor.Sp
end
section
namespace Go.Proofs.YtidcchopmbodkaaDoor.Sp
open Go.RowKit Go.Proofs.YtidcchopmbodkaaDoorW.PrintWords Go.Proofs.YtidcchopmbodkaaDoorW.PrintLast Go.Proofs.YtidcchopmbodkaaDoorW.PrintMore
open Canon
theorem putL_len : ∀ (l m behind : List Rg) (a b : Int), (putL l m behind a b).length ≤ l.length + m.length + behind.length + 1
  | [], m, behind, a, b => by simp [putL]; omega
  | s :: l, m, behind, a, b => by
    unfold putL
    split
    · have := putL_len l (m ++ [s]) behind a b; simp at this ⊢; omega
    · split
      · have := putL_len l m (behind ++ [s]) a b; simp at this ⊢; omega
      · have := putL_len l m behind (min a s.1) (max b s.2); simp at this ⊢; omega
theorem canon_len (l : List Rg) : (canon l).length ≤ l.length := by
  have key : ∀ (l acc : List Rg), (l.foldl (fun acc r => put acc r.1 r.2) acc).length ≤ acc.length + l.length := by
    intro l
    induction l with
    | nil => intro acc; simp
    | cons r l ih =>
      intro acc
      have h1 := ih (put acc r.1 r.2)
      have h2 := putL_len acc [] [] r.1 r.2
      have h3 : (put acc r.1 r.2).length ≤ acc.length + 1 := by simpa [put] using h2
      simp only [List.foldl_cons, List.length_cons]
      omega
  have := key l []
  simpa [canon] using this
structure Form (A : List S28) : Prop where
  rises : Rises (A.map pr)
  ends : ∀ x ∈ A, 1 ≤ x.f0 ∧ x.f1 ≤ 4294967295
theorem Form.le {A : List S28} (h : Form A) (x : S28) (hx : x ∈ A) : x.f0 ≤ x.f1 := h.rises.1 (pr x) (List.mem_map.2 ⟨x, hx, rfl⟩)
theorem mem_pr (A : List S28) (n : Int) : Mem (A.map pr) n ↔ ∃ x ∈ A, x.f0 ≤ n ∧ n ≤ x.f1 := by
  constructor
  · rintro ⟨r, hr, h⟩
    obtain ⟨x, hx, rfl⟩ := List.mem_map.1 hr
    exact ⟨x, hx, h⟩
  · rintro ⟨x, hx, h⟩
    exact ⟨pr x, List.mem_map.2 ⟨x, hx, rfl⟩, h⟩
theorem form_canon (l : List Rg) (hl : ∀ r ∈ l, 1 ≤ r.1 ∧ r.1 ≤ r.2 ∧ r.2 ≤ 4294967295) : Form ((canon l).map un) ∧ ∀ n, Mem (((canon l).map un).map pr) n ↔ Mem l n := by
  obtain ⟨h1, h2⟩ := canon_ok l fun r hr => (hl r hr).2.1
  refine ⟨⟨by rw [pr_un]; exact h1, fun x hx => ?_⟩, fun n => by rw [pr_un]; exact h2 n⟩
  obtain ⟨r, hr, rfl⟩ := List.mem_map.1 hx
  have hle := h1.1 r hr
  obtain ⟨s, hs, k1, k2⟩ := (h2 r.1).1 ⟨r, hr, by omega, by omega⟩
  obtain ⟨t, ht, k3, k4⟩ := (h2 r.2).1 ⟨r, hr, by omega, by omega⟩
  have := hl s hs
  have := hl t ht
  exact ⟨by show 1 ≤ r.1; omega, by show r.2 ≤ 4294967295; omega⟩
theorem least_form (l : List Int) : Form (leastA l) ∧ (∀ n, Mem ((leastA l).map pr) n ↔ n ∈ l ∧ okN n = true) ∧ (leastA l).length ≤ l.length := by
  have hl : ∀ r ∈ ((l.filter okN).map dup).map pr, 1 ≤ r.1 ∧ r.1 ≤ r.2 ∧ r.2 ≤ 4294967295 := by
    intro r hr
    obtain ⟨x, hx, rfl⟩ := List.mem_map.1 hr
    obtain ⟨n, hn, rfl⟩ := List.mem_map.1 hx
    have := (List.mem_filter.1 hn).2
    simp [okN] at this
    exact ⟨this.1, Int.le_refl _, this.2⟩
  obtain ⟨h1, h2⟩ := form_canon _ hl
  refine ⟨h1, fun n => (h2 n).trans ?_, ?_⟩
  · constructor
    · rintro ⟨r, hr, k1, k2⟩
      obtain ⟨x, hx, rfl⟩ := List.mem_map.1 hr
      obtain ⟨m, hm, rfl⟩ := List.mem_map.1 hx
      have e : n = m := by have k1 : m ≤ n := k1; have k2 : n ≤ m := k2; omega
      subst e
      exact List.mem_filter.1 hm
    · intro h
      exact ⟨pr (dup n), List.mem_map.2 ⟨dup n, List.mem_map.2 ⟨n, List.mem_filter.2 h, rfl⟩, rfl⟩, Int.le_refl _, Int.le_refl _⟩
  · show ((canon _).map un).length ≤ _
    rw [List.length_map]
    refine Nat.le_trans (canon_len _) ?_
    rw [List.length_map, List.length_map]
    exact List.length_filter_le _ _
def upto (a : Int) (k : Nat) : List Int := (List.range k).map fun i : Nat => a + (i : Int)
end Go.Proofs.YtidcchopmbodkaaDoor.Sp
end
section
namespace Go.Proofs.YtidcchopmbodkaaDoor.Sp
open Go.RowKit Go.Proofs.YtidcchopmbodkaaDoorW.PrintWords Go.Proofs.YtidcchopmbodkaaDoorW.PrintLast Go.Proofs.YtidcchopmbodkaaDoorW.PrintMore
open Canon
structure JS where
  p : List S28
  st : Bool
  lo : Int
  hi : Int
def nlo (lo t : Int) : Int := if 0 < t ∧ (lo = 0 ∨ t < lo) then t else lo
theorem nlo_spec (lo t : Int) : (0 < t ∧ (lo = 0 ∨ t < lo) ∧ nlo lo t = t) ∨ ((¬ 0 < t ∨ (lo ≠ 0 ∧ lo ≤ t)) ∧ nlo lo t = lo) := by
  unfold nlo
  split <;> omega
def jstep (s : JS) (x : S28) : JS :=
  if rngB x = false then s
  else if 0 < min x.f0 x.f1 then { s with p := s.p ++ [⟨min x.f0 x.f1, max x.f0 x.f1⟩] }
  else { p := s.p, st := true, lo := nlo s.lo (max x.f0 x.f1), hi := max s.hi (max x.f0 x.f1) }
def j0 : JS := ⟨[], false, 0, 0⟩
def jfin (s : JS) : List S28 :=
  let o := (canon ((if s.lo = s.hi then s.p else s.p ++ [⟨s.lo, s.hi⟩]).map pr)).map un
  if s.st = true then o ++ [⟨s.lo, 0⟩] else o
def joinA (l : List S28) : List S28 := jfin (l.foldl jstep j0)
structure JOk (s : JS) : Prop where
  ok : ∀ x ∈ s.p, 1 ≤ x.f0 ∧ x.f0 ≤ x.f1 ∧ x.f1 ≤ 4294967295
  lo0 : 0 ≤ s.lo
  le : s.lo ≤ s.hi
  hi1 : s.hi ≤ 4294967295
  zero : s.lo = 0 → s.hi = 0
  off : s.st = false → s.hi = 0
theorem j0_ok : JOk j0 := ⟨by simp [j0], Int.le_refl _, Int.le_refl _, by decide, fun _ => rfl, fun _ => rfl⟩
theorem rng_iff (x : S28) : rngB x = true ↔ 0 ≤ x.f0 ∧ 0 ≤ x.f1 ∧ x.f0 ≤ 4294967295 ∧ x.f1 ≤ 4294967295 := by
  unfold rngB
  simp only [Bool.and_eq_true, decide_eq_true_eq]
  omega
theorem jstep_ok (s : JS) (x : S28) (h : JOk s) : JOk (jstep s x) := by
  obtain ⟨h1, h2, h3, h4, h5, h6⟩ := h
  unfold jstep
  by_cases hr : rngB x = true
  · rw [if_neg (by simp [hr])]
    rw [rng_iff] at hr
    split
    · rename_i hm
      refine ⟨fun y hy => ?_, h2, h3, h4, h5, h6⟩
      rcases List.mem_append.1 hy with hy | hy
      · exact h1 y hy
      · rw [List.mem_singleton] at hy
        subst hy
        show 1 ≤ min x.f0 x.f1 ∧ min x.f0 x.f1 ≤ max x.f0 x.f1 ∧ max x.f0 x.f1 ≤ 4294967295
        omega
    · rename_i hm
      have hn := nlo_spec s.lo (max x.f0 x.f1)
      have ht : 0 ≤ max x.f0 x.f1 ∧ max x.f0 x.f1 ≤ 4294967295 := by omega
      generalize max x.f0 x.f1 = u at *
      generalize nlo s.lo u = v at *
      refine ⟨h1, ?_, ?_, ?_, ?_, fun h => by cases h⟩
      · show 0 ≤ v; omega
      · show v ≤ max s.hi u; omega
      · show max s.hi u ≤ _; omega
      · show v = 0 → max s.hi u = 0
        intro h
        by_cases hz : s.lo = 0
        · have := h5 hz; omega
        · omega
  · rw [if_pos (by simpa using hr)]
    exact ⟨h1, h2, h3, h4, h5, h6⟩
theorem jfold_ok (l : List S28) : ∀ s, JOk s → JOk (l.foldl jstep s) := by
  induction l with
  | nil => intro s h; exact h
  | cons x l ih => intro s h; exact ih _ (jstep_ok s x h)
def jplain (s : JS) : List S28 := (canon ((if s.lo = s.hi then s.p else s.p ++ [⟨s.lo, s.hi⟩]).map pr)).map un
theorem jplain_form (s : JS) (h : JOk s) : Form (jplain s) ∧ ∀ n, Mem ((jplain s).map pr) n ↔ (∃ x ∈ s.p, x.f0 ≤ n ∧ n ≤ x.f1) ∨ (s.lo ≠ s.hi ∧ s.lo ≤ n ∧ n ≤ s.hi) := by
  obtain ⟨h1, h2, h3, h4, h5, h6⟩ := h
  have hl : ∀ r ∈ (if s.lo = s.hi then s.p else s.p ++ [⟨s.lo, s.hi⟩]).map pr, 1 ≤ r.1 ∧ r.1 ≤ r.2 ∧ r.2 ≤ 4294967295 := by
    intro r hr
    obtain ⟨x, hx, rfl⟩ := List.mem_map.1 hr
    split at hx
    · exact h1 x hx
    · rename_i hne
      rcases List.mem_append.1 hx with hx | hx
      · exact h1 x hx
      · rw [List.mem_singleton] at hx
        subst hx
        show 1 ≤ s.lo ∧ s.lo ≤ s.hi ∧ s.hi ≤ 4294967295
        have : s.lo ≠ 0 := fun e => hne (by rw [e, h5 e])
        omega
  obtain ⟨f1, f2⟩ := form_canon _ hl
  refine ⟨f1, fun n => (f2 n).trans ?_⟩
  rw [mem_pr]
  split
  · rename_i he
    constructor
    · intro h; exact Or.inl h
    · rintro (h | ⟨h, _⟩)
      · exact h
      · exact absurd he h
  · rename_i hne
    simp only [List.mem_append, List.mem_singleton]
    constructor
    · rintro ⟨x, hx | hx, k⟩
      · exact Or.inl ⟨x, hx, k⟩
      · subst hx; exact Or.inr ⟨hne, k⟩
    · rintro (⟨x, hx, k⟩ | ⟨_, k⟩)
      · exact ⟨x, Or.inl hx, k⟩
      · exact ⟨_, Or.inr rfl, k⟩
end Go.Proofs.YtidcchopmbodkaaDoor.Sp
end
section
namespace Go.Proofs.YtidcchopmbodkaaDoor.Sp
open Go.RowKit Go.Proofs.YtidcchopmbodkaaDoorW.PrintWords Go.Proofs.YtidcchopmbodkaaDoorW.PrintLast Go.Proofs.YtidcchopmbodkaaDoorW.PrintMore
open Canon
theorem rdL2j_at (l : List (List S28)) (i : Nat) (h : i < l.length) : rd_L2 l (i : Int) = l[i] := by
  unfold rd_L2
  rw [List.getD_eq_getElem?_getD, show ((i : Int)).toNat = i from by omega, List.getElem?_eq_getElem h]
  rfl
theorem rng_f (x : S28) : span_isRange.f x.f0 x.f1 = some (rngB x) := by
  unfold span_isRange.f rngB
  rw [mn_eq, mx_eq]
  by_cases h : min x.f0 x.f1 ≥ 0
  · rw [if_pos h, decide_eq_true (show 0 ≤ min x.f0 x.f1 from h), Bool.true_and]
  · rw [if_neg h, decide_eq_false (show ¬ 0 ≤ min x.f0 x.f1 from h), Bool.false_and]
theorem jstep_len (s : JS) (x : S28) : (jstep s x).p.length ≤ s.p.length + 1 := by
  unfold jstep
  split
  · omega
  · split
    · simp
    · simp
theorem join_step (s : JS) (x : S28) (hp : s.p.length < 8796093022208) (k : Nat) (sets : List (List S28)) (n i : Int) (l : List S28) (m j : Int) :
    ((span_isRange.f x.f0 x.f1).bind fun t126 => (if t126 = true then (if (mn x.f0 x.f1) > 0 then (if s.p.length < 8796093022208 then (span_Join.l1 k (s.p ++ [(⟨mn x.f0 x.f1, mx x.f0 x.f1⟩ : S28)]) s.st s.lo s.hi sets n i l m j) else (none)) else (if (mx x.f0 x.f1) > 0 then (if s.lo = 0 then (span_Join.l1 k s.p true (mx x.f0 x.f1) (mx s.hi (mx x.f0 x.f1)) sets n i l m j) else (if (mx x.f0 x.f1) < s.lo then (span_Join.l1 k s.p true (mx x.f0 x.f1) (mx s.hi (mx x.f0 x.f1)) sets n i l m j) else (span_Join.l1 k s.p true s.lo (mx s.hi (mx x.f0 x.f1)) sets n i l m j))) else (span_Join.l1 k s.p true s.lo (mx s.hi (mx x.f0 x.f1)) sets n i l m j))) else (span_Join.l1 k s.p s.st s.lo s.hi sets n i l m j)))
    = span_Join.l1 k (jstep s x).p (jstep s x).st (jstep s x).lo (jstep s x).hi sets n i l m j := by
  rw [rng_f, Option.bind_some, mn_eq, mx_eq]
  by_cases hr : rngB x = true
  · rw [if_pos hr]
    by_cases hm : min x.f0 x.f1 > 0
    · have e : jstep s x = { s with p := s.p ++ [⟨min x.f0 x.f1, max x.f0 x.f1⟩] } := by unfold jstep; rw [if_neg (by rw [hr]; simp), if_pos hm]
      rw [if_pos hm, if_pos hp, e]
    · have e : jstep s x = { p := s.p, st := true, lo := nlo s.lo (max x.f0 x.f1), hi := max s.hi (max x.f0 x.f1) } := by unfold jstep; rw [if_neg (by rw [hr]; simp), if_neg hm]
      rw [if_neg hm, e]
      simp only [mx_eq]
      unfold nlo
      by_cases h1 : max x.f0 x.f1 > 0
      · rw [if_pos h1]
        by_cases h2 : s.lo = 0
        · rw [if_pos h2, if_pos ⟨h1, Or.inl h2⟩]
        · rw [if_neg h2]
          by_cases h3 : max x.f0 x.f1 < s.lo
          · rw [if_pos h3, if_pos ⟨h1, Or.inr h3⟩]
          · rw [if_neg h3, if_neg (by rintro ⟨_, h | h⟩ <;> contradiction)]
      · rw [if_neg h1, if_neg (fun h => h1 h.1)]
  · have e : jstep s x = s := by unfold jstep; rw [if_pos (by simpa using hr)]
    rw [if_neg hr, e]
theorem join_l1 (l : List S28) (hl : l.length ≤ 8000000000000) (sets : List (List S28)) (n i : Int) (d : Nat) : ∀ (j k : Nat) (s : JS), j + d = l.length → JOk s → s.p.length + d ≤ 8000000000000 →
    span_Join.l1 (k + (d + 1)) s.p s.st s.lo s.hi sets n i l (l.length : Int) (j : Int) = span_Join.l0 k ((l.drop j).foldl jstep s).p ((l.drop j).foldl jstep s).st ((l.drop j).foldl jstep s).lo ((l.drop j).foldl jstep s).hi sets n (wrap64 (i + 1)) := by
  induction d with
  | zero =>
    intro j k s hj hs hp
    rw [Nat.zero_add]
    simp only [span_Join.l1]
    rw [if_neg (by omega), List.drop_of_length_le (by omega)]
    rfl
  | succ d ih =>
    intro j k s hj hs hp
    have hjl : j < l.length := by omega
    have ih' := fun s => ih (j + 1) k s (by omega)
    rw [show k + (d + 1 + 1) = (k + (d + 1)) + 1 from by omega]
    generalize k + (d + 1) = K at ih' ⊢
    simp only [span_Join.l1]
    rw [if_pos (by omega), if_pos (by omega), if_pos (by omega), rd28_at l j hjl, w64n j (by omega), List.drop_eq_getElem_cons hjl]
    generalize l[j] = x
    have hlen := jstep_len s x
    refine (join_step s x (by omega) K sets n i l (l.length : Int) ((j + 1 : Nat) : Int)).trans ?_
    exact ih' (jstep s x) (jstep_ok s x hs) (by omega)
def cost : List (List S28) → Nat
  | [] => 0
  | l :: r => l.length + 2 + cost r
theorem jfold_len (l : List S28) : ∀ s : JS, (l.foldl jstep s).p.length ≤ s.p.length + l.length := by
  induction l with
  | nil => intro s; simp
  | cons x l ih => intro s; have h1 := ih (jstep s x); have h2 := jstep_len s x; simp only [List.foldl_cons, List.length_cons]; omega
theorem united_ok (l : List S28) (hl : l.length ≤ 8000000000000) (h : ∀ x ∈ l, 1 ≤ x.f0 ∧ x.f0 ≤ x.f1 ∧ x.f1 ≤ 4294967295) : span_united.f l = some ((canon (l.map pr)).map un) := by
  unfold span_united.f
  rw [if_pos]
  refine ⟨by omega, List.all_eq_true.2 fun x hx => ?_⟩
  have := h x hx
  show (decide (0 ≤ x.f0) && (decide (x.f0 ≤ x.f1) && decide (x.f1 ≤ 4294967295))) = true
  simp
  omega
theorem join_end (s : JS) (hs : JOk s) (hp : s.p.length ≤ 4000000000000) (k : Nat) (sets : List (List S28)) (i : Int) (hi : (sets.length : Int) ≤ i) : span_Join.l0 (k + 1) s.p s.st s.lo s.hi sets (sets.length : Int) i = some (jfin s) := by
  simp only [span_Join.l0]
  rw [if_neg (by omega)]
  have fin : ∀ q : List S28, q.length ≤ 8000000000000 → (∀ x ∈ q, 1 ≤ x.f0 ∧ x.f0 ≤ x.f1 ∧ x.f1 ≤ 4294967295) → ((span_united.f q).bind fun t130 => (if s.st = true then (if t130.length < 8796093022208 then (some (t130 ++ [(⟨s.lo, 0⟩ : S28)])) else (none)) else (some t130))) = some (if s.st = true then (canon (q.map pr)).map un ++ [⟨s.lo, 0⟩] else (canon (q.map pr)).map un) := by
    intro q hq hok
    rw [united_ok q hq hok, Option.bind_some]
    by_cases h : s.st = true
    · rw [if_pos h, if_pos h, if_pos (by rw [List.length_map]; have := canon_len (q.map pr); rw [List.length_map] at this; omega)]
    · rw [if_neg h, if_neg h]
  unfold jfin
  by_cases he : s.lo = s.hi
  · rw [if_pos he]
    refine (fin s.p (by omega) hs.ok).trans ?_
    simp only [if_pos he]
  · rw [if_neg he, if_pos (by omega)]
    have hq : (s.p ++ [(⟨s.lo, s.hi⟩ : S28)]).length ≤ 8000000000000 := by rw [List.length_append, List.length_singleton]; omega
    have hqo : ∀ x ∈ s.p ++ [(⟨s.lo, s.hi⟩ : S28)], 1 ≤ x.f0 ∧ x.f0 ≤ x.f1 ∧ x.f1 ≤ 4294967295 := by
      intro x hx
      rcases List.mem_append.1 hx with hx | hx
      · exact hs.ok x hx
      · rw [List.mem_singleton] at hx
        subst hx
        have h0 : s.lo ≠ 0 := fun e => he (by rw [e, hs.zero e])
        have := hs.lo0; have := hs.le; have := hs.hi1
        show 1 ≤ s.lo ∧ s.lo ≤ s.hi ∧ s.hi ≤ 4294967295
        omega
    refine (fin _ hq hqo).trans ?_
    simp only [if_neg he]
theorem join_l0 (sets : List (List S28)) (hl : sets.length ≤ 8000000000000) (hb : ∀ l ∈ sets, l.length ≤ 4000000000000) (d : Nat) : ∀ (i k : Nat) (s : JS), i + d = sets.length → JOk s → s.p.length + (sets.drop i).flatten.length ≤ 4000000000000 → cost (sets.drop i) + 1 ≤ k →
    span_Join.l0 k s.p s.st s.lo s.hi sets (sets.length : Int) (i : Int) = some (jfin ((sets.drop i).flatten.foldl jstep s)) := by
  induction d with
  | zero =>
    intro i k s hi hs hp hk
    obtain ⟨k, rfl⟩ : ∃ j, k = j + 1 := ⟨k - 1, by omega⟩
    rw [List.drop_of_length_le (by omega)] at hp ⊢
    rw [join_end s hs (by simpa using hp) k sets (i : Int) (by omega)]
    rfl
  | succ d ih =>
    intro i k s hi hs hp hk
    have hil : i < sets.length := by omega
    rw [List.drop_eq_getElem_cons hil] at hp hk ⊢
    have hbl := hb sets[i] (List.getElem_mem hil)
    obtain ⟨k, rfl⟩ : ∃ j, k = j + 1 := ⟨k - 1, by omega⟩
    simp only [span_Join.l0]
    rw [if_pos (by omega), if_pos (by omega), if_pos (by omega), rdL2j_at sets i hil]
    generalize sets[i] = l at *
    simp only [cost] at hk
    simp only [List.flatten_cons, List.length_append] at hp
    have h1 := join_l1 l (by omega) sets (sets.length : Int) (i : Int) l.length 0 (k - (l.length + 1)) s (by omega) hs (by omega)
    rw [show k - (l.length + 1) + (l.length + 1) = k from by omega, List.drop_zero, w64n i (by omega)] at h1
    refine Eq.trans h1 ?_
    have hlen := jfold_len l s
    rw [ih (i + 1) (k - (l.length + 1)) (l.foldl jstep s) (by omega) (jfold_ok l s hs) (by omega) (by omega), List.flatten_cons, List.foldl_append]
theorem join_f (sets : List (List S28)) (hl : sets.length ≤ 8000000000000) (hn : sets.flatten.length ≤ 4000000000000) (k : Nat) (hk : cost sets + 1 ≤ k) : span_Join.f k sets = some (joinA sets.flatten) := by
  unfold span_Join.f
  have hb : ∀ l ∈ sets, l.length ≤ 4000000000000 := by
    intro l hm
    have := List.Sublist.length_le (List.sublist_flatten_of_mem hm)
    omega
  have := join_l0 sets hl hb sets.length 0 k j0 (by omega) j0_ok (by simpa [j0] using hn) (by simpa using hk)
  rw [List.drop_zero] at this
  exact this
theorem cost_le (sets : List (List S28)) : cost sets = sets.flatten.length + 2 * sets.length := by
  induction sets with
  | nil => rfl
  | cons l r ih => simp only [cost, ih, List.flatten_cons, List.length_append, List.length_cons]; omega
end Go.Proofs.YtidcchopmbodkaaDoor.Sp
end
section
namespace Go.Proofs.YtidcchopmbodkaaDoor.Sp
open Go.RowKit Go.Proofs.YtidcchopmbodkaaDoorW.PrintWords Go.Proofs.YtidcchopmbodkaaDoorW.PrintLast Go.Proofs.YtidcchopmbodkaaDoorW.PrintMore
open Canon
structure JForm (J P : List S28) (st : Bool) (lo : Int) : Prop where
  form : Form P
  lo0 : 0 ≤ lo
  lo1 : lo ≤ 4294967295
  eq : J = P ++ (if st = true then [⟨lo, 0⟩] else [])
theorem join_form (l : List S28) : ∃ P st lo, JForm (joinA l) P st lo := by
  have hok := jfold_ok l j0 j0_ok
  refine ⟨jplain (l.foldl jstep j0), (l.foldl jstep j0).st, (l.foldl jstep j0).lo, ⟨(jplain_form _ hok).1, hok.lo0, Int.le_trans hok.le hok.hi1, ?_⟩⟩
  unfold joinA jfin jplain
  simp only
  split <;> simp
def plainQ (x : S28) : Bool := decide (0 < min x.f0 x.f1)
def Pl (lo : Int) (x : S28) : Prop := (1 ≤ x.f0 ∧ x.f0 ≤ x.f1 ∧ x.f1 ≤ 4294967295) ∨ x = ⟨lo, 0⟩
theorem fold_pl (lo : Int) (h0 : 0 ≤ lo) (h1 : lo ≤ 4294967295) (l : List S28) : ∀ (p : List S28) (st : Bool), (∀ x ∈ l, Pl lo x) →
    l.foldl jstep ⟨p, st, if st = true then lo else 0, if st = true then lo else 0⟩ = ⟨p ++ l.filter plainQ, st || l.any (fun x => !plainQ x), if (st || l.any (fun x => !plainQ x)) = true then lo else 0, if (st || l.any (fun x => !plainQ x)) = true then lo else 0⟩ := by
  induction l with
  | nil => intro p st _; simp
  | cons x l ih =>
    intro p st hl
    have hx := hl x (by simp)
    have hl' : ∀ y ∈ l, Pl lo y := fun y hy => hl y (by simp [hy])
    rw [List.foldl_cons, List.filter_cons, List.any_cons]
    rcases hx with ⟨a, b, c⟩ | rfl
    · have hr : rngB x = true := (rng_iff x).2 (by omega)
      have hq : plainQ x = true := by unfold plainQ; exact decide_eq_true (by omega)
      have e : jstep ⟨p, st, if st = true then lo else 0, if st = true then lo else 0⟩ x = ⟨p ++ [x], st, if st = true then lo else 0, if st = true then lo else 0⟩ := by
        unfold jstep
        rw [if_neg (by rw [hr]; simp), if_pos (by omega)]
        have : (⟨min x.f0 x.f1, max x.f0 x.f1⟩ : S28) = x := by
          rw [show min x.f0 x.f1 = x.f0 from by omega, show max x.f0 x.f1 = x.f1 from by omega]
        rw [this]
      rw [e, ih _ _ hl', hq, if_pos rfl, List.append_assoc]
      simp
    · have hr : rngB (⟨lo, 0⟩ : S28) = true := (rng_iff _).2 ⟨h0, Int.le_refl _, h1, show (0 : Int) ≤ 4294967295 from by decide⟩
      have hq : plainQ (⟨lo, 0⟩ : S28) = false := by unfold plainQ; exact decide_eq_false (by simp only; omega)
      have e : jstep ⟨p, st, if st = true then lo else 0, if st = true then lo else 0⟩ ⟨lo, 0⟩ = ⟨p, true, if true = true then lo else 0, if true = true then lo else 0⟩ := by
        unfold jstep
        rw [if_neg (by rw [hr]; simp), if_neg (show ¬ (0 < min lo 0) from by omega)]
        have hm : max lo 0 = lo := by omega
        simp only [hm, if_true]
        have e1 : nlo (if st = true then lo else 0) lo = lo := by
          unfold nlo
          cases st
          · show (if 0 < lo ∧ ((0 : Int) = 0 ∨ lo < 0) then lo else 0) = lo
            split <;> omega
          · show (if 0 < lo ∧ (lo = 0 ∨ lo < lo) then lo else lo) = lo
            split <;> rfl
        have e2 : max (if st = true then lo else 0) lo = lo := by
          cases st
          · show max 0 lo = lo
            omega
          · show max lo lo = lo
            omega
        rw [e1, e2]
      rw [e, ih _ true hl', hq]
      simp
theorem join_stay {J P : List S28} {st : Bool} {lo : Int} (h : JForm J P st lo) (l : List S28) (hl : ∀ x, x ∈ l ↔ x ∈ J) : joinA l = J := by
  have hP : ∀ x ∈ P, 1 ≤ x.f0 ∧ x.f0 ≤ x.f1 ∧ x.f1 ≤ 4294967295 := fun x hx => ⟨(h.form.ends x hx).1, h.form.le x hx, (h.form.ends x hx).2⟩
  have hpl : ∀ x ∈ l, Pl lo x := by
    intro x hx
    have := (hl x).1 hx
    rw [h.eq, List.mem_append] at this
    rcases this with hp | hs
    · exact Or.inl (hP x hp)
    · cases st
      · simp at hs
      · simp at hs; exact Or.inr hs
  have hf := fold_pl lo h.lo0 h.lo1 l [] false hpl
  have hq : ∀ x, x ∈ l.filter plainQ ↔ x ∈ P := by
    intro x
    rw [List.mem_filter, hl, h.eq, List.mem_append]
    constructor
    · rintro ⟨hp | hs, hb⟩
      · exact hp
      · exfalso
        cases st
        · simp at hs
        · simp at hs
          subst hs
          unfold plainQ at hb
          have := of_decide_eq_true hb
          simp only at this
          omega
    · intro hp
      have := hP x hp
      exact ⟨Or.inl hp, decide_eq_true (by omega)⟩
  have hst : l.any (fun x => !plainQ x) = st := by
    cases st with
    | true =>
      rw [List.any_eq_true]
      refine ⟨⟨lo, 0⟩, (hl _).2 (by rw [h.eq]; simp), ?_⟩
      unfold plainQ
      rw [decide_eq_false (by simp only; omega)]
      rfl
    | false =>
      rw [List.any_eq_false]
      intro x hx
      have hx2 := (hl x).1 hx
      rw [h.eq] at hx2
      simp at hx2
      have := hP x hx2
      unfold plainQ
      rw [decide_eq_true (by omega)]
      simp
  have hc : canon ((l.filter plainQ).map pr) = P.map pr := by
    have hle : ∀ r ∈ (l.filter plainQ).map pr, r.1 ≤ r.2 := by
      intro r hr
      obtain ⟨x, hx, rfl⟩ := List.mem_map.1 hr
      exact (hP x ((hq x).1 hx)).2.1
    obtain ⟨c1, c2⟩ := canon_ok _ hle
    refine rises_unique _ _ c1 h.form.rises (fun n => ?_)
    rw [c2, mem_pr, mem_pr]
    constructor
    · rintro ⟨x, hx, hn⟩; exact ⟨x, (hq x).1 hx, hn⟩
    · rintro ⟨x, hx, hn⟩; exact ⟨x, (hq x).2 hx, hn⟩
  unfold joinA
  have e0 : j0 = ⟨[], false, if false = true then lo else 0, if false = true then lo else 0⟩ := rfl
  rw [e0, hf, Bool.false_or, hst, List.nil_append]
  unfold jfin
  simp only [if_true]
  rw [hc, un_pr, h.eq]
  cases st <;> simp
theorem least_jform (l : List Int) : JForm (leastA l) (leastA l) false 0 := ⟨(least_form l).1, Int.le_refl _, by decide, by simp⟩
end Go.Proofs.YtidcchopmbodkaaDoor.Sp
end
section
namespace Go
section
variable {P : Program} {ops : Array Oper} {Q : Exit → Act → World → Prop} {md : Region.Mode} {S S1 : World → Prop}
end
end Go
end
section
namespace Go.Proofs.YtidcchopmbodkaaDoor.Sp
open Go.RowKit Go.Proofs.YtidcchopmbodkaaDoorW.PrintWords Go.Proofs.YtidcchopmbodkaaDoorW.PrintLast Go.Proofs.YtidcchopmbodkaaDoorW.PrintMore
attribute [local go_sem] max2_int min2_int max_two min_two max_three min_three max_four min_four   -- for this text's walks alone
set_option linter.unusedVariables false
set_option linter.unusedSimpArgs false
attribute [local go_sem high] eqA28
def postbaglaw4_num.f (a0 : Int) : Option (Int) := some a0
set_option maxHeartbeats 8000000 in
set_option maxRecDepth 100000 in
theorem postbaglaw4_num.calls (a0 : Int) (r : Int) (w : World) (h : postbaglaw4_num.f a0 = some r) :
  Calls Tryd.prog 34 #[.int .i64 a0] w fun e w' => e = .returned (.int .i64 r) ∧ Drawn0 w w' := by
 have H : (some a0) = some r := h
 clear h
 obtain rfl := Option.some.inj H
 go_enter Tryd.func34, Tryd.ntmps34
 go_wp2
 go_ret
 exact ⟨by first | rfl | (simp; done) | (simp [*]; done), by repeat (first | exact Drawn0.refl _ | apply Drawn0.step)⟩
end Go.Proofs.YtidcchopmbodkaaDoor.Sp
end
section
namespace Go.Proofs.YtidcchopmbodkaaDoor.Sp
open Go.RowKit Go.Proofs.YtidcchopmbodkaaDoorW.PrintWords Go.Proofs.YtidcchopmbodkaaDoorW.PrintLast Go.Proofs.YtidcchopmbodkaaDoorW.PrintMore
structure Laid (w : World) : Prop where
  tab : Lib.TabIs Tryd.prog w "internal/strconv.uint64pow10" .u64 Lib.pow10Tab
theorem laid_below {w w1 : World} (h : Laid w) (hb : Below w.heap.size w w1) : Laid w1 := by
  have h := h.tab
  refine ⟨?_⟩
  unfold Lib.TabIs World.var? at h ⊢
  cases hg : Tryd.prog.globalNamed "internal/strconv.uint64pow10" with
  | none => rw [hg] at h; cases h
  | some g =>
    rw [hg] at h
    simp only [Option.bind_some] at h ⊢
    have hlt : g < w.heap.size := by
      rcases Nat.lt_or_ge g w.heap.size with h' | h'
      · exact h'
      · rw [Array.getElem?_eq_none h'] at h; cases h
    rw [hb.block g hlt]
    exact h
theorem laid_drawn {w w1 : World} (h : Laid w) (hd : Drawn0 w w1) : Laid w1 := laid_below h hd.below
theorem below_grow (w : World) (k : Nat) (os : Array Obj) : Below w.heap.size w (Sort.grow (w.drewN k) os) :=
  ⟨rfl, rfl, rfl, by simp [Sort.grow], fun i hi => by show (w.heap ++ os)[i]? = w.heap[i]?; exact Array.getElem?_append_left hi⟩
def span_word.f (a0 : Int) : Option ByteArray := if a0 = 0 then some ⟨#[42]⟩ else if -9223372036854775808 ≤ a0 ∧ a0 ≤ 9223372036854775807 then some ⟨(Lib.itoa a0).toArray⟩ else none
theorem span_word.calls (a0 : Int) (r : ByteArray) (w : World) (h : span_word.f a0 = some r) (hL : Laid w) :
    Calls Tryd.prog 56 #[.int .i64 a0] w fun e w' => e = .returned (.string r) ∧ Below w.heap.size w w' := by
  unfold span_word.f at h
  by_cases h0 : a0 = 0
  · rw [if_pos h0] at h
    injection h with h; subst h; subst h0
    go_enter Tryd.func56, Tryd.ntmps56
    go_wp2
    go_ret
    exact ⟨rfl, Below.refl _ _⟩
  · rw [if_neg h0] at h
    split at h
    · rename_i h1
      obtain rfl := Option.some.inj h
      clear h
      have h2 : (a0 == 0) = false := by simpa using h0
      have hcon := Shl.strconv_Itoa a0 h1.1 h1.2 w hL.tab
      generalize (⟨(Lib.itoa a0).toArray⟩ : ByteArray) = t at *
      clear hL h1
      go_enter Tryd.func56, Tryd.ntmps56
      go_wp2_with (go_at_call 66; refine hcon.mono ?_; rintro e w' ⟨rfl, k, os, rfl⟩)
      go_ret
      exact ⟨rfl, below_grow _ _ _⟩
    · cases h
theorem cs_form {w : World} {A : Option Addr} {l : List ByteArray} (h : Kd.C Kd.string w A l.length l) (hn : 0 < l.length) :
    ∃ b off, A = some ⟨b, off, none⟩ ∧ b < w.heap.size ∧ ∀ (j : Nat) (x : ByteArray), l[j]? = some x → w.cell? ⟨b, off + j, none⟩ = some (.string x) := by
  obtain ⟨_, _, h3⟩ := h
  obtain ⟨ad, rfl, hc⟩ := h3 hn
  obtain ⟨b, off, sp⟩ := ad
  have key : ∀ j (x : ByteArray), l[j]? = some x → w.cell? (Addr.add ⟨b, off, sp⟩ j) = some (.string x) := by
    intro j x hx
    obtain ⟨c, _, hk, hcell⟩ := hc j x hx
    have hk : c = [.string x] := hk
    subst hk
    have := hcell 0 _ rfl
    rwa [show Kd.string.sz = 1 from rfl, Nat.mul_one, Nat.add_zero] at this
  have hl : ∃ x, l[0]? = some x := ⟨l[0]'hn, List.getElem?_eq_getElem hn⟩
  obtain ⟨x, hx⟩ := hl
  have k0 := key 0 x hx
  have hs : sp = none := by
    cases sp with
    | none => rfl
    | some s =>
      exfalso
      have e : Addr.add ⟨b, off, some s⟩ 0 = ⟨b, off, some s⟩ := rfl
      rw [e] at k0
      unfold World.cell? at k0
      split at k0
      · simp at k0
      · cases k0
  subst hs
  have e : ∀ k, Addr.add ⟨b, off, none⟩ k = ⟨b, off + k, none⟩ := fun k => by
    unfold Addr.add
    split
    · rename_i h0; subst h0; rfl
    · rfl
  refine ⟨b, off, rfl, ?_, fun j x hx => ?_⟩
  · rw [e] at k0
    exact World.block_lt_of_cell? w _ k0
  · have := key j x hx
    rw [e] at this
    exact this
def joinB (l : List ByteArray) (sep : ByteArray) : ByteArray := ⟨(Lib.join (l.map (·.data.toList)) sep.data.toList).toArray⟩
def strings_Join.f (l0 : List ByteArray) (a1 : ByteArray) : Option ByteArray := if l0.length ≤ 140737488355328 ∧ (joinB l0 a1).size ≤ 140737488355328 then some (joinB l0 a1) else none
theorem strings_Join.calls (A0 : Option Addr) (c0 : Nat) (l0 : List ByteArray) (a1 r : ByteArray) (w : World) (hr0 : Kd.C Kd.string w A0 l0.length l0) (hc0 : l0.length ≤ c0) (h : strings_Join.f l0 a1 = some r) :
    Calls Tryd.prog 57 #[.slice A0 l0.length c0, .string a1] w fun e w' => e = .returned (.string r) ∧ Below w.heap.size w w' := by
  unfold strings_Join.f at h
  split at h
  · rename_i hb
    obtain rfl := Option.some.inj h
    by_cases h0 : l0.length = 0
    · have e : l0 = [] := List.length_eq_zero_iff.1 h0
      subst e
      exact (Shl.strings_Join_none A0 c0 a1 w).mono fun e w' ⟨he, hw⟩ => ⟨he, hw ▸ Below.refl _ _⟩
    · obtain ⟨b, off, rfl, hbk, hc⟩ := cs_form hr0 (by omega)
      exact Shl.strings_Join b off c0 l0 a1 w hc hbk hb.1 hc0 hb.2
  · cases h
end Go.Proofs.YtidcchopmbodkaaDoor.Sp
end
