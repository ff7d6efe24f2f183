import Derived.Test.YtidcchopmbodkaaDoorQl6
import Derived.Test.YtidcchopmbodkaaDoorQl4
import Derived.Test.YtidcchopmbodkaaDoorQl5
import Derived.Test.YtidcchopmbodkaaDoorQl3
import Derived.Test.YtidcchopmbodkaaDoorQl2
section
namespace Go.Proofs.YtidcchopmbodkaaDoor.Sp
open Go.RowKit Go.Proofs.YtidcchopmbodkaaDoorW.PrintWords Go.Proofs.YtidcchopmbodkaaDoorW.PrintLast Go.Proofs.YtidcchopmbodkaaDoorW.PrintMore
open Canon
structure JS where
  p : List S28
  st : Bool
  lo : Int
  hi : Int
def j0 : JS := ⟨[], false, 0, 0⟩
structure JOk (s : JS) : Prop where
  ok : ∀ x ∈ s.p, 1 ≤ x.f0 ∧ x.f0 ≤ x.f1 ∧ x.f1 ≤ 4294967295
  lo0 : 0 ≤ s.lo
  le : s.lo ≤ s.hi
  hi1 : s.hi ≤ 4294967295
  zero : s.lo = 0 → s.hi = 0
  off : s.st = false → s.hi = 0
end Go.Proofs.YtidcchopmbodkaaDoor.Sp
end
section
namespace Go.Proofs.YtidcchopmbodkaaDoor.Sp
open Go.RowKit Go.Proofs.YtidcchopmbodkaaDoorW.PrintWords Go.Proofs.YtidcchopmbodkaaDoorW.PrintLast Go.Proofs.YtidcchopmbodkaaDoorW.PrintMore
open Canon
end Go.Proofs.YtidcchopmbodkaaDoor.Sp
end
section
namespace Go.Proofs.YtidcchopmbodkaaDoor.Sp
open Go.RowKit Go.Proofs.YtidcchopmbodkaaDoorW.PrintWords Go.Proofs.YtidcchopmbodkaaDoorW.PrintLast Go.Proofs.YtidcchopmbodkaaDoorW.PrintMore
open Par Canon
end Go.Proofs.YtidcchopmbodkaaDoor.Sp
end
section
namespace Go.Proofs.YtidcchopmbodkaaDoor.Sp
open Go.RowKit Go.Proofs.YtidcchopmbodkaaDoorW.PrintWords Go.Proofs.YtidcchopmbodkaaDoorW.PrintLast Go.Proofs.YtidcchopmbodkaaDoorW.PrintMore
open Canon
end Go.Proofs.YtidcchopmbodkaaDoor.Sp
end
section
namespace Go.Proofs.YtidcchopmbodkaaDoor.Sp
open Go.RowKit Go.Proofs.YtidcchopmbodkaaDoorW.PrintWords Go.Proofs.YtidcchopmbodkaaDoorW.PrintLast Go.Proofs.YtidcchopmbodkaaDoorW.PrintMore
attribute [local go_sem] max2_int min2_int max_two min_two max_three min_three max_four min_four   -- for this text's walks alone
set_option linter.unusedVariables false
set_option linter.unusedSimpArgs false
mutual
def postbaglaw4_long.l0 : Nat → List (S38) → Int → Int → Option (Bool)
 | 0, _, _, _ => none
 | k + 1, x0, x3, x4 => if x4 < (x0.length : Int) then (postbaglaw4_long.j1 k x0 x3 x4 (decide (x4 < 30))) else (postbaglaw4_long.j1 k x0 x3 x4 false)
def postbaglaw4_long.j1 : Nat → List (S38) → Int → Int → Bool → Option (Bool)
 | 0, _, _, _, _ => none
 | k + 1, x0, x3, x4, x13 => if x13 = true then (if 0 ≤ x4 then (if x4 < (x0.length : Int) then (postbaglaw4_long.l1 k x0 (wrap64 ((wrap64 ((wrap64 (x3 + (((rd_T38 x0 x4).f1).length : Int))) + (((rd_T38 x0 x4).f4).length : Int))) + (((rd_T38 x0 x4).f5).length : Int))) x4 0) else (none)) else (none)) else (some (decide ((x0.length : Int) > 30)))
def postbaglaw4_long.l1 : Nat → List (S38) → Int → Int → Int → Option (Bool)
 | 0, _, _, _, _ => none
 | k + 1, x0, x3, x4, x5 => if 0 ≤ x4 then (if x4 < (x0.length : Int) then (if x5 < (((rd_T38 x0 x4).f5).length : Int) then (if x3 ≤ 3000 then (if 0 ≤ x5 then (postbaglaw4_long.l1 k x0 (wrap64 (x3 + ((rd_L2 ((rd_T38 x0 x4).f5) x5).length : Int))) x4 (wrap64 (x5 + 1))) else (none)) else (if x3 > 3000 then (some true) else (postbaglaw4_long.l0 k x0 x3 (wrap64 (x4 + 1))))) else (if x3 > 3000 then (some true) else (postbaglaw4_long.l0 k x0 x3 (wrap64 (x4 + 1))))) else (none)) else (none)
end
def postbaglaw4_long.f (k : Nat) (l0 : List (S38)) : Option (Bool) := postbaglaw4_long.l0 k l0 0 0
set_option maxHeartbeats 8000000 in
set_option maxRecDepth 100000 in
theorem postbaglaw4_long.calls (k : Nat) (A0 : Option Addr) (c0 : Nat) (l0 : List (S38)) (r : Bool) (w : World) (hr0 : Kd.C k38 w A0 l0.length l0) (hc0 : l0.length ≤ c0) (h : postbaglaw4_long.f k l0 = some r) :
  Calls Tryd.prog 21 #[.slice A0 l0.length c0] w fun e w' => e = .returned (.bool r) ∧ Drawn0 w w' := by
 have HR0 := Aside0.mk hr0
 have HC0 := Aside0.mk hc0
 clear hr0 hc0
 have H : (postbaglaw4_long.l0 k l0 0 0) = some r := h
 clear h
 have H' := Aside0.mk H
 clear H
 go_enter Tryd.func21, Tryd.ntmps21
 go_wp2
 repeat (go_quiet (fail); try go_wp2)
 go_loopg [3, 4] k (fun kq v3 v4 w' => ∃ (x3_1 : Int) (x4_1 : Int), v3 = .int .i64 x3_1 ∧ v4 = .int .i64 x4_1 ∧ Aside0 (postbaglaw4_long.l0 kq l0 x3_1 x4_1 = some r) ∧ Aside0 (kq ≤ k) ∧ Drawn0 w w')
 case atStart => exact ⟨(0), (0), (by first | rfl | (simp; done) | (simp [*]; done)), (by first | rfl | (simp; done) | (simp [*]; done)), H', ⟨Nat.le_refl _⟩, by repeat (first | exact Drawn0.refl _ | apply Drawn0.step)⟩
 case round =>
  clear H'
  obtain ⟨x3_1, x4_1, rfl, rfl, HA, HK1, ⟨m1, rfl⟩⟩ := hrel
  cases gk with
  | zero => exact absurd HA.out (by simp [postbaglaw4_long.l0])
  | succ k1 =>
   have H := HA.out
   clear HA
   simp only [postbaglaw4_long.l0] at H
   have HC2 := Aside0.mk H
   clear H
   go_upto_region 3 with (fail)
   repeat (go_quiet (fail); go_upto_region 3 with (fail))
   go_cut [13] (fun v13 wc => ∃ (kq : Nat) (x13_1 : Bool), v13 = .bool x13_1 ∧ Aside0 (postbaglaw4_long.j1 kq l0 x3_1 x4_1 x13_1 = some r) ∧ Aside0 (kq ≤ k1) ∧ Drawn0 w wc)
   case first =>
    have H := HC2.out
    clear HC2
    by_cases c3 : x4_1 < (l0.length : Int)
    ·rw [if_pos c3] at H
     have c3b0 : decide (x4_1 < (l0.length : Int)) = true := decide_eq_true c3
     clear c3
     (first | rw [c3b0] | (simp only [i64_w, i32_w]; rw [c3b0]) | skip)
     have H' := Aside0.mk H
     clear H
     go_wp2
     repeat (go_quiet (fail); try go_wp2)
     go_meet
     case rel => exact ⟨_, (decide (x4_1 < 30)), (by first | rfl | (simp; done) | (simp [*]; done)), H', ⟨by have := HK1.out; first | omega | exact Nat.le_refl _⟩, by repeat (first | exact Drawn0.refl _ | apply Drawn0.step)⟩
    ·rw [if_neg c3] at H
     have c3b0 : decide (x4_1 < (l0.length : Int)) = false := decide_eq_false c3
     clear c3
     (first | rw [c3b0] | (simp only [i64_w, i32_w]; rw [c3b0]) | skip)
     have H' := Aside0.mk H
     clear H
     go_wp2
     repeat (go_quiet (fail); try go_wp2)
     go_meet
     case rel => exact ⟨_, (false), (by first | rfl | (simp; done) | (simp [*]; done)), H', ⟨by have := HK1.out; first | omega | exact Nat.le_refl _⟩, by repeat (first | exact Drawn0.refl _ | apply Drawn0.step)⟩
   case rest =>
    clear HC2
    try clear c2
    try clear p2
    try clear c3
    try clear c3b0
    obtain ⟨kq, x13_1, rfl, HA, HJ1, ⟨mc1, rfl⟩⟩ := hcut
    cases kq with
    | zero => exact absurd HA.out (by simp [postbaglaw4_long.j1])
    | succ kj1 =>
     have H := HA.out
     clear HA
     simp only [postbaglaw4_long.j1] at H
     by_cases c4 : x13_1 = true
     ·subst c4
      have H1 : (if 0 ≤ x4_1 then (if x4_1 < (l0.length : Int) then (postbaglaw4_long.l1 kj1 l0 (wrap64 ((wrap64 ((wrap64 (x3_1 + (((rd_T38 l0 x4_1).f1).length : Int))) + (((rd_T38 l0 x4_1).f4).length : Int))) + (((rd_T38 l0 x4_1).f5).length : Int))) x4_1 0) else (none)) else (none)) = some r := by rw [if_pos rfl] at H; exact H
      clear H
      have H := H1
      clear H1
      by_cases c5 : 0 ≤ x4_1
      ·rw [if_pos c5] at H
       have c5b0 : decide (0 ≤ x4_1) = true := decide_eq_true c5
       clear c5
       by_cases c6 : x4_1 < (l0.length : Int)
       ·rw [if_pos c6] at H
        have c6b0 : decide (x4_1 < (l0.length : Int)) = true := decide_eq_true c6
        clear c6
        have H' := Aside0.mk H
        clear H
        have p233 : 0 ≤ (x4_1 : Int) := of_decide_eq_true (by first | (with_reducible assumption) | assumption)
        have q233 : x4_1 < (l0.length : Int) := of_decide_eq_true (by first | (with_reducible assumption) | assumption)
        obtain ⟨ad233, A233_1, c233_1, A233_4, c233_4, A233_5, c233_5, e233, hx233_0, hx233_1, hx233_2, hx233_3, hx233_4, hx233_5, hl233_1, hi233_1, hl233_4, hi233_4, hl233_5, hi233_5⟩ := at_T38 HR0.out x4_1 p233 q233
        cases e233
        have HR233_1 := Aside0.mk hi233_1
        have HC233_1 := Aside0.mk hl233_1
        clear hi233_1 hl233_1
        have HR233_4 := Aside0.mk hi233_4
        have HC233_4 := Aside0.mk hl233_4
        clear hi233_4 hl233_4
        have HR233_5 := Aside0.mk hi233_5
        have HC233_5 := Aside0.mk hl233_5
        clear hi233_5 hl233_5
        replace p233 := eq_true p233
        replace q233 := eq_true q233
        have p234 : 0 ≤ (x4_1 : Int) := of_decide_eq_true (by first | (with_reducible assumption) | assumption)
        have q234 : x4_1 < (l0.length : Int) := of_decide_eq_true (by first | (with_reducible assumption) | assumption)
        obtain ⟨ad234, A234_1, c234_1, A234_4, c234_4, A234_5, c234_5, e234, hx234_0, hx234_1, hx234_2, hx234_3, hx234_4, hx234_5, hl234_1, hi234_1, hl234_4, hi234_4, hl234_5, hi234_5⟩ := at_T38 HR0.out x4_1 p234 q234
        obtain rfl : ad233 = ad234 := (by injection e234)
        have HR234_1 := Aside0.mk hi234_1
        have HC234_1 := Aside0.mk hl234_1
        clear hi234_1 hl234_1
        have HR234_4 := Aside0.mk hi234_4
        have HC234_4 := Aside0.mk hl234_4
        clear hi234_4 hl234_4
        have HR234_5 := Aside0.mk hi234_5
        have HC234_5 := Aside0.mk hl234_5
        clear hi234_5 hl234_5
        replace p234 := eq_true p234
        replace q234 := eq_true q234
        have ea_ := Option.some.inj (hx233_1.symm.trans hx234_1)
        injection ea_ with ea_ en_ ec_
        subst ea_
        subst ec_
        clear en_
        have ea_ := Option.some.inj (hx233_4.symm.trans hx234_4)
        injection ea_ with ea_ en_ ec_
        subst ea_
        subst ec_
        clear en_
        have ea_ := Option.some.inj (hx233_5.symm.trans hx234_5)
        injection ea_ with ea_ en_ ec_
        subst ea_
        subst ec_
        clear en_
        have p235 : 0 ≤ (x4_1 : Int) := of_decide_eq_true (by first | (with_reducible assumption) | assumption)
        have q235 : x4_1 < (l0.length : Int) := of_decide_eq_true (by first | (with_reducible assumption) | assumption)
        obtain ⟨ad235, A235_1, c235_1, A235_4, c235_4, A235_5, c235_5, e235, hx235_0, hx235_1, hx235_2, hx235_3, hx235_4, hx235_5, hl235_1, hi235_1, hl235_4, hi235_4, hl235_5, hi235_5⟩ := at_T38 HR0.out x4_1 p235 q235
        obtain rfl : ad233 = ad235 := (by injection e235)
        have HR235_1 := Aside0.mk hi235_1
        have HC235_1 := Aside0.mk hl235_1
        clear hi235_1 hl235_1
        have HR235_4 := Aside0.mk hi235_4
        have HC235_4 := Aside0.mk hl235_4
        clear hi235_4 hl235_4
        have HR235_5 := Aside0.mk hi235_5
        have HC235_5 := Aside0.mk hl235_5
        clear hi235_5 hl235_5
        replace p235 := eq_true p235
        replace q235 := eq_true q235
        have ea_ := Option.some.inj (hx233_1.symm.trans hx235_1)
        injection ea_ with ea_ en_ ec_
        subst ea_
        subst ec_
        clear en_
        have ea_ := Option.some.inj (hx233_4.symm.trans hx235_4)
        injection ea_ with ea_ en_ ec_
        subst ea_
        subst ec_
        clear en_
        have ea_ := Option.some.inj (hx233_5.symm.trans hx235_5)
        injection ea_ with ea_ en_ ec_
        subst ea_
        subst ec_
        clear en_
        go_wp2
        repeat (go_quiet (fail); try go_wp2)
        go_loopg [3, 5] kj1 (fun kq v3 v5 w' => ∃ (x3_3 : Int) (x5_3 : Int), v3 = .int .i64 x3_3 ∧ v5 = .int .i64 x5_3 ∧ Aside0 (postbaglaw4_long.l1 kq l0 x3_3 x4_1 x5_3 = some r) ∧ Aside0 (kq ≤ kj1) ∧ Drawn0 w w')
        case atStart => exact ⟨(wrap64 ((wrap64 ((wrap64 (x3_1 + (((rd_T38 l0 x4_1).f1).length : Int))) + (((rd_T38 l0 x4_1).f4).length : Int))) + (((rd_T38 l0 x4_1).f5).length : Int))), (0), (by first | rfl | (simp; done) | (simp [*]; done)), (by first | rfl | (simp; done) | (simp [*]; done)), H', ⟨Nat.le_refl _⟩, by repeat (first | exact Drawn0.refl _ | apply Drawn0.step)⟩
        case round =>
         clear H'
         try clear c1
         try clear c2
         try clear p2
         try clear q2
         try clear hx2
         try clear c3
         try clear c3b0
         try clear c4
         try clear c5
         try clear c5b0
         try clear c6
         try clear c6b0
         try clear p6
         try clear hx233_0
         try clear hx233_1
         try clear hx233_2
         try clear hx233_3
         try clear hx233_4
         try clear hx233_5
         try clear hx234_0
         try clear hx234_1
         try clear hx234_2
         try clear hx234_3
         try clear hx234_4
         try clear hx234_5
         try clear hx235_0
         try clear hx235_1
         try clear hx235_2
         try clear hx235_3
         try clear hx235_4
         try clear hx235_5
         try clear p2
         try clear p233
         try clear p234
         try clear p235
         try clear q233
         try clear q234
         try clear q235
         obtain ⟨x3_3, x5_3, rfl, rfl, HA, HK3, ⟨m3, rfl⟩⟩ := hrel
         cases gk with
         | zero => exact absurd HA.out (by simp [postbaglaw4_long.l1])
         | succ k3 =>
          have H := HA.out
          clear HA
          simp only [postbaglaw4_long.l1] at H
          by_cases c7 : 0 ≤ x4_1
          ·rw [if_pos c7] at H
           have c7b0 : decide (0 ≤ x4_1) = true := decide_eq_true c7
           clear c7
           by_cases c8 : x4_1 < (l0.length : Int)
           ·rw [if_pos c8] at H
            have c8b0 : decide (x4_1 < (l0.length : Int)) = true := decide_eq_true c8
            clear c8
            by_cases c9 : x5_3 < (((rd_T38 l0 x4_1).f5).length : Int)
            ·rw [if_pos c9] at H
             have c9b0 : decide (x5_3 < (((rd_T38 l0 x4_1).f5).length : Int)) = true := decide_eq_true c9
             clear c9
             by_cases c10 : x3_3 ≤ 3000
             ·rw [if_pos c10] at H
              have c10b0 : decide (x3_3 ≤ 3000) = true := decide_eq_true c10
              clear c10
              by_cases c11 : 0 ≤ x5_3
              ·rw [if_pos c11] at H
               have c11b0 : decide (0 ≤ x5_3) = true := decide_eq_true c11
               clear c11
               have H' := Aside0.mk H
               clear H
               have p236 : 0 ≤ (x4_1 : Int) := of_decide_eq_true (by first | (with_reducible assumption) | assumption)
               have q236 : x4_1 < (l0.length : Int) := of_decide_eq_true (by first | (with_reducible assumption) | assumption)
               obtain ⟨ad236, A236_1, c236_1, A236_4, c236_4, A236_5, c236_5, e236, hx236_0, hx236_1, hx236_2, hx236_3, hx236_4, hx236_5, hl236_1, hi236_1, hl236_4, hi236_4, hl236_5, hi236_5⟩ := at_T38 HR0.out x4_1 p236 q236
               obtain rfl : ad233 = ad236 := (by injection e236)
               have HR236_1 := Aside0.mk hi236_1
               have HC236_1 := Aside0.mk hl236_1
               clear hi236_1 hl236_1
               have HR236_4 := Aside0.mk hi236_4
               have HC236_4 := Aside0.mk hl236_4
               clear hi236_4 hl236_4
               have HR236_5 := Aside0.mk hi236_5
               have HC236_5 := Aside0.mk hl236_5
               clear hi236_5 hl236_5
               replace p236 := eq_true p236
               replace q236 := eq_true q236
               have p237 : 0 ≤ (x4_1 : Int) := of_decide_eq_true (by first | (with_reducible assumption) | assumption)
               have q237 : x4_1 < (l0.length : Int) := of_decide_eq_true (by first | (with_reducible assumption) | assumption)
               obtain ⟨ad237, A237_1, c237_1, A237_4, c237_4, A237_5, c237_5, e237, hx237_0, hx237_1, hx237_2, hx237_3, hx237_4, hx237_5, hl237_1, hi237_1, hl237_4, hi237_4, hl237_5, hi237_5⟩ := at_T38 HR0.out x4_1 p237 q237
               obtain rfl : ad233 = ad237 := (by injection e237)
               have HR237_1 := Aside0.mk hi237_1
               have HC237_1 := Aside0.mk hl237_1
               clear hi237_1 hl237_1
               have HR237_4 := Aside0.mk hi237_4
               have HC237_4 := Aside0.mk hl237_4
               clear hi237_4 hl237_4
               have HR237_5 := Aside0.mk hi237_5
               have HC237_5 := Aside0.mk hl237_5
               clear hi237_5 hl237_5
               replace p237 := eq_true p237
               replace q237 := eq_true q237
               have ea_ := Option.some.inj (hx236_1.symm.trans hx237_1)
               injection ea_ with ea_ en_ ec_
               subst ea_
               subst ec_
               clear en_
               have ea_ := Option.some.inj (hx236_4.symm.trans hx237_4)
               injection ea_ with ea_ en_ ec_
               subst ea_
               subst ec_
               clear en_
               have ea_ := Option.some.inj (hx236_5.symm.trans hx237_5)
               injection ea_ with ea_ en_ ec_
               subst ea_
               subst ec_
               clear en_
               have p238 : 0 ≤ (x5_3 : Int) := of_decide_eq_true (by first | (with_reducible assumption) | assumption)
               have q238 : x5_3 < (((rd_T38 l0 x4_1).f5).length : Int) := of_decide_eq_true (by first | (with_reducible assumption) | assumption)
               obtain ⟨ad238, A238_0, c238_0, e238, hx238_0, hl238_0, hi238_0⟩ := at_L2 HR237_5.out x5_3 p238 q238
               cases e238
               have HR238_0 := Aside0.mk hi238_0
               have HC238_0 := Aside0.mk hl238_0
               clear hi238_0 hl238_0
               replace p238 := eq_true p238
               replace q238 := eq_true q238
               go_wp2
               repeat (go_quiet (fail); try go_wp2)
               go_roundg k3
               case measure => have := HK1.out; have := HJ1.out; have := HK3.out; omega
               case rel => exact ⟨(wrap64 (x3_3 + ((rd_L2 ((rd_T38 l0 x4_1).f5) x5_3).length : Int))), (wrap64 (x5_3 + 1)), (by first | rfl | (simp; done) | (simp [*]; done)), (by first | rfl | (simp; done) | (simp [*]; done)), H', ⟨by have := HK1.out; have := HJ1.out; have := HK3.out; omega⟩, by repeat (first | exact Drawn0.refl _ | apply Drawn0.step)⟩
              ·rw [if_neg c11] at H
               exact absurd H (by simp)
             ·rw [if_neg c10] at H
              have c10b0 : decide (x3_3 ≤ 3000) = false := decide_eq_false c10
              clear c10
              by_cases c12 : x3_3 > 3000
              ·rw [if_pos c12] at H
               have c12b0 : decide (3000 < x3_3) = true := decide_eq_true c12
               clear c12
               obtain rfl := Option.some.inj H
               have p236 : 0 ≤ (x4_1 : Int) := of_decide_eq_true (by first | (with_reducible assumption) | assumption)
               have q236 : x4_1 < (l0.length : Int) := of_decide_eq_true (by first | (with_reducible assumption) | assumption)
               obtain ⟨ad236, A236_1, c236_1, A236_4, c236_4, A236_5, c236_5, e236, hx236_0, hx236_1, hx236_2, hx236_3, hx236_4, hx236_5, hl236_1, hi236_1, hl236_4, hi236_4, hl236_5, hi236_5⟩ := at_T38 HR0.out x4_1 p236 q236
               obtain rfl : ad233 = ad236 := (by injection e236)
               have HR236_1 := Aside0.mk hi236_1
               have HC236_1 := Aside0.mk hl236_1
               clear hi236_1 hl236_1
               have HR236_4 := Aside0.mk hi236_4
               have HC236_4 := Aside0.mk hl236_4
               clear hi236_4 hl236_4
               have HR236_5 := Aside0.mk hi236_5
               have HC236_5 := Aside0.mk hl236_5
               clear hi236_5 hl236_5
               replace p236 := eq_true p236
               replace q236 := eq_true q236
               go_wp2
               repeat (go_quiet (fail); try go_wp2)
               go_ret
               exact ⟨by first | rfl | (simp; done) | (simp [*]; done), by repeat (first | exact Drawn0.refl _ | apply Drawn0.step)⟩
              ·rw [if_neg c12] at H
               have c12b0 : decide (3000 < x3_3) = false := decide_eq_false c12
               clear c12
               have H' := Aside0.mk H
               clear H
               have p236 : 0 ≤ (x4_1 : Int) := of_decide_eq_true (by first | (with_reducible assumption) | assumption)
               have q236 : x4_1 < (l0.length : Int) := of_decide_eq_true (by first | (with_reducible assumption) | assumption)
               obtain ⟨ad236, A236_1, c236_1, A236_4, c236_4, A236_5, c236_5, e236, hx236_0, hx236_1, hx236_2, hx236_3, hx236_4, hx236_5, hl236_1, hi236_1, hl236_4, hi236_4, hl236_5, hi236_5⟩ := at_T38 HR0.out x4_1 p236 q236
               obtain rfl : ad233 = ad236 := (by injection e236)
               have HR236_1 := Aside0.mk hi236_1
               have HC236_1 := Aside0.mk hl236_1
               clear hi236_1 hl236_1
               have HR236_4 := Aside0.mk hi236_4
               have HC236_4 := Aside0.mk hl236_4
               clear hi236_4 hl236_4
               have HR236_5 := Aside0.mk hi236_5
               have HC236_5 := Aside0.mk hl236_5
               clear hi236_5 hl236_5
               replace p236 := eq_true p236
               replace q236 := eq_true q236
               go_wp2
               repeat (go_quiet (fail); try go_wp2)
               go_roundg k3
               case measure => have := HK1.out; have := HJ1.out; have := HK3.out; omega
               case rel => exact ⟨(x3_3), (wrap64 (x4_1 + 1)), (by first | rfl | (simp; done) | (simp [*]; done)), (by first | rfl | (simp; done) | (simp [*]; done)), H', ⟨by have := HK1.out; have := HJ1.out; have := HK3.out; omega⟩, by repeat (first | exact Drawn0.refl _ | apply Drawn0.step)⟩
            ·rw [if_neg c9] at H
             have c9b0 : decide (x5_3 < (((rd_T38 l0 x4_1).f5).length : Int)) = false := decide_eq_false c9
             clear c9
             by_cases c13 : x3_3 > 3000
             ·rw [if_pos c13] at H
              have c13b0 : decide (3000 < x3_3) = true := decide_eq_true c13
              clear c13
              obtain rfl := Option.some.inj H
              have p236 : 0 ≤ (x4_1 : Int) := of_decide_eq_true (by first | (with_reducible assumption) | assumption)
              have q236 : x4_1 < (l0.length : Int) := of_decide_eq_true (by first | (with_reducible assumption) | assumption)
              obtain ⟨ad236, A236_1, c236_1, A236_4, c236_4, A236_5, c236_5, e236, hx236_0, hx236_1, hx236_2, hx236_3, hx236_4, hx236_5, hl236_1, hi236_1, hl236_4, hi236_4, hl236_5, hi236_5⟩ := at_T38 HR0.out x4_1 p236 q236
              obtain rfl : ad233 = ad236 := (by injection e236)
              have HR236_1 := Aside0.mk hi236_1
              have HC236_1 := Aside0.mk hl236_1
              clear hi236_1 hl236_1
              have HR236_4 := Aside0.mk hi236_4
              have HC236_4 := Aside0.mk hl236_4
              clear hi236_4 hl236_4
              have HR236_5 := Aside0.mk hi236_5
              have HC236_5 := Aside0.mk hl236_5
              clear hi236_5 hl236_5
              replace p236 := eq_true p236
              replace q236 := eq_true q236
              go_wp2
              repeat (go_quiet (fail); try go_wp2)
              go_ret
              exact ⟨by first | rfl | (simp; done) | (simp [*]; done), by repeat (first | exact Drawn0.refl _ | apply Drawn0.step)⟩
             ·rw [if_neg c13] at H
              have c13b0 : decide (3000 < x3_3) = false := decide_eq_false c13
              clear c13
              have H' := Aside0.mk H
              clear H
              have p236 : 0 ≤ (x4_1 : Int) := of_decide_eq_true (by first | (with_reducible assumption) | assumption)
              have q236 : x4_1 < (l0.length : Int) := of_decide_eq_true (by first | (with_reducible assumption) | assumption)
              obtain ⟨ad236, A236_1, c236_1, A236_4, c236_4, A236_5, c236_5, e236, hx236_0, hx236_1, hx236_2, hx236_3, hx236_4, hx236_5, hl236_1, hi236_1, hl236_4, hi236_4, hl236_5, hi236_5⟩ := at_T38 HR0.out x4_1 p236 q236
              obtain rfl : ad233 = ad236 := (by injection e236)
              have HR236_1 := Aside0.mk hi236_1
              have HC236_1 := Aside0.mk hl236_1
              clear hi236_1 hl236_1
              have HR236_4 := Aside0.mk hi236_4
              have HC236_4 := Aside0.mk hl236_4
              clear hi236_4 hl236_4
              have HR236_5 := Aside0.mk hi236_5
              have HC236_5 := Aside0.mk hl236_5
              clear hi236_5 hl236_5
              replace p236 := eq_true p236
              replace q236 := eq_true q236
              go_wp2
              repeat (go_quiet (fail); try go_wp2)
              go_roundg k3
              case measure => have := HK1.out; have := HJ1.out; have := HK3.out; omega
              case rel => exact ⟨(x3_3), (wrap64 (x4_1 + 1)), (by first | rfl | (simp; done) | (simp [*]; done)), (by first | rfl | (simp; done) | (simp [*]; done)), H', ⟨by have := HK1.out; have := HJ1.out; have := HK3.out; omega⟩, by repeat (first | exact Drawn0.refl _ | apply Drawn0.step)⟩
           ·rw [if_neg c8] at H
            exact absurd H (by simp)
          ·rw [if_neg c7] at H
           exact absurd H (by simp)
       ·rw [if_neg c6] at H
        exact absurd H (by simp)
      ·rw [if_neg c5] at H
       exact absurd H (by simp)
     ·replace c4 := Bool.eq_false_iff.mpr c4
      subst c4
      have H1 : (some (decide ((l0.length : Int) > 30))) = some r := by rw [if_neg (show ¬ (false = true) by decide)] at H; exact H
      clear H
      have H := H1
      clear H1
      obtain rfl := Option.some.inj H
      go_wp2
      repeat (go_quiet (fail); try go_wp2)
      go_ret
      exact ⟨by first | rfl | (simp; done) | (simp [*]; done), by repeat (first | exact Drawn0.refl _ | apply Drawn0.step)⟩
end Go.Proofs.YtidcchopmbodkaaDoor.Sp
end
section
namespace Go.Proofs.YtidcchopmbodkaaDoor.Sp
open Go.RowKit Go.Proofs.YtidcchopmbodkaaDoorW.PrintWords Go.Proofs.YtidcchopmbodkaaDoorW.PrintLast Go.Proofs.YtidcchopmbodkaaDoorW.PrintMore
attribute [local go_sem] max2_int min2_int max_two min_two max_three min_three max_four min_four   -- for this text's walks alone
set_option linter.unusedVariables false
set_option linter.unusedSimpArgs false
def postbaglaw4_turn.f (a0 : Int) (a1 : Int) : Option (Int) := if a0 < a1 then (some a0) else (some (wrap64 ((wrap64 ((wrap64 (2 * a1)) - 1)) - a0)))
set_option maxHeartbeats 8000000 in
set_option maxRecDepth 100000 in
theorem postbaglaw4_turn.calls (a0 : Int) (a1 : Int) (r : Int) (w : World) (h : postbaglaw4_turn.f a0 a1 = some r) :
  Calls Tryd.prog 22 #[.int .i64 a0, .int .i64 a1] w fun e w' => e = .returned (.int .i64 r) ∧ Drawn0 w w' := by
 have H : (if a0 < a1 then (some a0) else (some (wrap64 ((wrap64 ((wrap64 (2 * a1)) - 1)) - a0)))) = some r := h
 clear h
 by_cases c3 : a0 < a1
 ·rw [if_pos c3] at H
  have c3b0 : decide (a0 < a1) = true := decide_eq_true c3
  clear c3
  obtain rfl := Option.some.inj H
  go_enter Tryd.func22, Tryd.ntmps22
  go_wp2
  go_ret
  exact ⟨by first | rfl | (simp; done) | (simp [*]; done), by repeat (first | exact Drawn0.refl _ | apply Drawn0.step)⟩
 ·rw [if_neg c3] at H
  have c3b0 : decide (a0 < a1) = false := decide_eq_false c3
  clear c3
  obtain rfl := Option.some.inj H
  go_enter Tryd.func22, Tryd.ntmps22
  go_wp2
  go_ret
  exact ⟨by first | rfl | (simp; done) | (simp [*]; done), by repeat (first | exact Drawn0.refl _ | apply Drawn0.step)⟩
end Go.Proofs.YtidcchopmbodkaaDoor.Sp
end
section
namespace Go.Proofs.YtidcchopmbodkaaDoor.Sp
open Go.RowKit Go.Proofs.YtidcchopmbodkaaDoorW.PrintWords Go.Proofs.YtidcchopmbodkaaDoorW.PrintLast Go.Proofs.YtidcchopmbodkaaDoorW.PrintMore
open Canon
def FitsL (l : List S38) : Prop := ∀ x ∈ l, x.f1.length ≤ 8796093022208 ∧ x.f4.length ≤ 17592186044416 ∧ x.f5.length ≤ 8796093022208 ∧ ∀ y ∈ x.f5, y.length ≤ 8796093022208
def Short (x : S38) : Prop := x.f1.length ≤ 3000 ∧ x.f4.length ≤ 3000 ∧ x.f5.length ≤ 3000 ∧ x.f5.flatten.length ≤ 3000
theorem rd38L_at (l : List S38) (i : Nat) (h : i < l.length) : rd_T38 l (i : Int) = l[i] := by
  unfold rd_T38
  rw [List.getD_eq_getElem?_getD, show ((i : Int)).toNat = i from by omega, List.getElem?_eq_getElem h]
  rfl
theorem rdL2L_at (l : List (List S28)) (i : Nat) (h : i < l.length) : rd_L2 l (i : Int) = l[i] := by
  unfold rd_L2
  rw [List.getD_eq_getElem?_getD, show ((i : Int)).toNat = i from by omega, List.getElem?_eq_getElem h]
  rfl
theorem longS_l1 (l : List S38) (hf : FitsL l) (i : Nat) (hi : i < l.length) (hl : l.length ≤ 8796093022208) (P : Nat → Prop) (G : Prop)
    (next : ∀ (k : Nat) (n : Int), 0 ≤ n → n ≤ 3000 → P k → ∃ b, postbaglaw4_long.l0 k l n ((i + 1 : Nat) : Int) = some b ∧ (b = false → G)) (d : Nat) :
    ∀ (j k : Nat) (n : Int), j + d = l[i].f5.length → 0 ≤ n → n ≤ 70368744200000 → (∀ k', k ≤ k' → P k') → ∃ b, postbaglaw4_long.l1 (k + (d + 1)) l n (i : Int) (j : Int) = some b ∧ (b = false → G ∧ n + (((l[i].f5.drop j).flatten.length : Nat) : Int) ≤ 3000) := by
  have hfi := hf l[i] (List.getElem_mem hi)
  have stop : ∀ (k : Nat) (n : Int), 0 ≤ n → P k → ∃ b, (if n > 3000 then some true else postbaglaw4_long.l0 k l n (wrap64 ((i : Int) + 1))) = some b ∧ (b = false → G ∧ n ≤ 3000) := by
    intro k n h0 hP
    by_cases h : n > 3000
    · rw [if_pos h]; exact ⟨true, rfl, fun h => by cases h⟩
    · rw [if_neg h, w64n i (by omega)]
      obtain ⟨b, hb, hG⟩ := next k n h0 (by omega) hP
      exact ⟨b, hb, fun h => ⟨hG h, by omega⟩⟩
  induction d with
  | zero =>
    intro j k n hj h0 h1 hP
    rw [Nat.zero_add]
    simp only [postbaglaw4_long.l1]
    rw [if_pos (by omega), if_pos (by omega), rd38L_at l i hi, if_neg (by omega), List.drop_of_length_le (by omega)]
    obtain ⟨b, hb, hG⟩ := stop k n h0 (hP k (Nat.le_refl _))
    exact ⟨b, hb, fun h => ⟨(hG h).1, by have := (hG h).2; simpa using this⟩⟩
  | succ d ih =>
    intro j k n hj h0 h1 hP
    have ih' := ih (j + 1) k
    have stop' := stop (k + (d + 1)) n h0 (hP _ (by omega))
    rw [show k + (d + 1 + 1) = (k + (d + 1)) + 1 from by omega]
    generalize k + (d + 1) = K at ih' stop' ⊢
    have hjl : j < l[i].f5.length := by omega
    simp only [postbaglaw4_long.l1]
    rw [if_pos (by omega), if_pos (by omega), rd38L_at l i hi, if_pos (by omega)]
    by_cases h3 : n ≤ 3000
    · rw [if_pos h3, if_pos (by omega), rdL2L_at _ j hjl, w64n j (by omega)]
      have hy := hfi.2.2.2 _ (List.getElem_mem hjl)
      have hw : wrap64 (n + (l[i].f5[j].length : Int)) = n + (l[i].f5[j].length : Int) := by unfold wrap64; omega
      rw [hw]
      obtain ⟨b, hb, hG⟩ := ih' (n + (l[i].f5[j].length : Int)) (by omega) (by omega) (by omega) hP
      refine ⟨b, hb, fun h => ⟨(hG h).1, ?_⟩⟩
      have := (hG h).2
      rw [List.drop_eq_getElem_cons hjl, List.flatten_cons, List.length_append]
      omega
    · rw [if_neg h3]
      obtain ⟨b, hb, hG⟩ := stop'
      exact ⟨b, hb, fun h => by have := (hG h).2; omega⟩
theorem longS_end (l : List S38) (hl : l.length ≤ 8796093022208) (n i : Int) (k : Nat) : ∃ b, postbaglaw4_long.j1 (k + 1) l n i false = some b ∧ (b = false → l.length ≤ 30) := by
  simp only [postbaglaw4_long.j1]
  rw [if_neg (by simp)]
  refine ⟨_, rfl, fun h => ?_⟩
  have := of_decide_eq_false h
  omega
theorem longS_l0 (l : List S38) (hf : FitsL l) (hl : l.length ≤ 8796093022208) (d : Nat) : ∀ i : Nat, i + d = l.length → ∃ K, ∀ k, K ≤ k → ∀ n : Int, 0 ≤ n → n ≤ 3000 → ∃ b, postbaglaw4_long.l0 k l n (i : Int) = some b ∧ (b = false → l.length ≤ 30 ∧ ∀ x ∈ l.drop i, Short x) := by
  induction d with
  | zero =>
    intro i hi
    refine ⟨5, fun k hk n h0 h1 => ?_⟩
    obtain ⟨k, rfl⟩ : ∃ j, k = j + 2 := ⟨k - 2, by omega⟩
    simp only [postbaglaw4_long.l0]
    rw [if_neg (by omega), List.drop_of_length_le (by omega)]
    obtain ⟨b, hb, hG⟩ := longS_end l hl n i k
    exact ⟨b, hb, fun h => ⟨hG h, fun x hx => by cases hx⟩⟩
  | succ d ih =>
    intro i hi
    obtain ⟨K, hK⟩ := ih (i + 1) (by omega)
    have hil : i < l.length := by omega
    refine ⟨K + l[i].f5.length + 10, fun k hk n h0 h1 => ?_⟩
    obtain ⟨k, rfl⟩ : ∃ j, k = j + 2 := ⟨k - 2, by omega⟩
    simp only [postbaglaw4_long.l0]
    rw [if_pos (by omega)]
    by_cases h30 : (i : Int) < 30
    · rw [decide_eq_true h30]
      simp only [postbaglaw4_long.j1]
      have hx := hf l[i] (List.getElem_mem hil)
      rw [if_pos trivial, if_pos (by omega), if_pos (by omega), rd38L_at l i hil]
      have e1 : wrap64 (n + (l[i].f1.length : Int)) = n + (l[i].f1.length : Int) := by unfold wrap64; omega
      have e2 : wrap64 (n + (l[i].f1.length : Int) + (l[i].f4.length : Int)) = n + (l[i].f1.length : Int) + (l[i].f4.length : Int) := by unfold wrap64; omega
      have e3 : wrap64 (n + (l[i].f1.length : Int) + (l[i].f4.length : Int) + (l[i].f5.length : Int)) = n + (l[i].f1.length : Int) + (l[i].f4.length : Int) + (l[i].f5.length : Int) := by unfold wrap64; omega
      rw [e1, e2, e3]
      have := longS_l1 l hf i hil hl (fun k => K ≤ k) _ (fun k n a b c => hK k c n a b) l[i].f5.length 0 (k - (l[i].f5.length + 1)) (n + (l[i].f1.length : Int) + (l[i].f4.length : Int) + (l[i].f5.length : Int)) (by omega) (by omega) (by omega) (fun k' h => by omega)
      rw [show k - (l[i].f5.length + 1) + (l[i].f5.length + 1) = k from by omega, List.drop_zero] at this
      obtain ⟨b, hb, hG⟩ := this
      refine ⟨b, hb, fun h => ⟨(hG h).1.1, fun x hx => ?_⟩⟩
      rw [List.drop_eq_getElem_cons hil] at hx
      have h2 := (hG h).2
      rcases List.mem_cons.1 hx with rfl | hx
      · unfold Short; omega
      · exact (hG h).1.2 x hx
    · rw [decide_eq_false h30]
      obtain ⟨b, hb, hG⟩ := longS_end l hl n i k
      exact ⟨b, hb, fun h => by have := hG h; omega⟩
theorem longS_f (l : List S38) (hf : FitsL l) (hl : l.length ≤ 8796093022208) : ∃ k b, postbaglaw4_long.f k l = some b ∧ (b = false → l.length ≤ 30 ∧ ∀ x ∈ l, Short x) := by
  obtain ⟨K, hK⟩ := longS_l0 l hf hl l.length 0 (by omega)
  obtain ⟨b, hb, hG⟩ := hK K (Nat.le_refl _) 0 (Int.le_refl _) (by decide)
  exact ⟨K, b, hb, hG⟩
def turnL (k n : Nat) : Nat := if k < n then k else 2 * n - 1 - k
theorem turnL_f (k n : Nat) (hn : n ≤ 30) (hk : k < 2 * n) : postbaglaw4_turn.f (k : Int) (n : Int) = some ((turnL k n : Nat) : Int) ∧ turnL k n < n := by
  unfold postbaglaw4_turn.f turnL
  by_cases h : k < n
  · rw [if_pos (by omega), if_pos h]; exact ⟨rfl, h⟩
  · have e1 : wrap64 (2 * (n : Int)) = 2 * (n : Int) := by unfold wrap64; omega
    have e2 : wrap64 (2 * (n : Int) - 1) = 2 * (n : Int) - 1 := by unfold wrap64; omega
    have e3 : wrap64 (2 * (n : Int) - 1 - (k : Int)) = ((2 * n - 1 - k : Nat) : Int) := by unfold wrap64; omega
    rw [if_neg (by omega), if_neg h, e1, e2, e3]
    exact ⟨rfl, by omega⟩
end Go.Proofs.YtidcchopmbodkaaDoor.Sp
end
section
namespace Go.Proofs.YtidcchopmbodkaaDoor.Sp
open Go.RowKit Go.Proofs.YtidcchopmbodkaaDoorW.PrintWords Go.Proofs.YtidcchopmbodkaaDoorW.PrintLast Go.Proofs.YtidcchopmbodkaaDoorW.PrintMore
attribute [local go_sem] max2_int min2_int max_two min_two max_three min_three max_four min_four   -- for this text's walks alone
set_option linter.unusedVariables false
set_option linter.unusedSimpArgs false
attribute [local go_sem high] eqA28
def postbaglaw4_num.f (a0 : Int) : Option (Int) := some a0
set_option maxHeartbeats 8000000 in
set_option maxRecDepth 100000 in
theorem postbaglaw4_num.calls (a0 : Int) (r : Int) (w : World) (h : postbaglaw4_num.f a0 = some r) :
  Calls Tryd.prog 34 #[.int .i64 a0] w fun e w' => e = .returned (.int .i64 r) ∧ Drawn0 w w' := by
 have H : (some a0) = some r := h
 clear h
 obtain rfl := Option.some.inj H
 go_enter Tryd.func34, Tryd.ntmps34
 go_wp2
 go_ret
 exact ⟨by first | rfl | (simp; done) | (simp [*]; done), by repeat (first | exact Drawn0.refl _ | apply Drawn0.step)⟩
end Go.Proofs.YtidcchopmbodkaaDoor.Sp
end
