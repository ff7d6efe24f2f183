import Derived.Test.YtidcchopmbodkaaDoorQb2
import Derived.Test.YtidcchopmbodkaaDoorQb6
import Derived.Test.YtidcchopmbodkaaDoorQb4
import Derived.Test.YtidcchopmbodkaaDoorQb5
import Derived.Test.YtidcchopmbodkaaDoorQb3
import Derived.Test.YtidcchopmbodkaaDoorRows
import Derived.ProofKit
import Derived.LaidMore
import Derived.OpenShut
import Derived.Stop.Joined
import Derived.Lib.LaidTab
section
namespace Go.Proofs.YtidcchopmbodkaaDoor.Sp
open Go.RowKit Go.Proofs.YtidcchopmbodkaaDoorW.PrintWords Go.Proofs.YtidcchopmbodkaaDoorW.PrintLast Go.Proofs.YtidcchopmbodkaaDoorW.PrintMore
attribute [local go_sem] max2_int min2_int max_two min_two max_three min_three max_four min_four   -- for this text's walks alone
set_option linter.unusedVariables false
set_option linter.unusedSimpArgs false
attribute [local go_sem high] eqA28
def postbaglaw4_sound.l0 : Nat → List (S28) → Int → Option (Bool)
 | 0, _, _ => none
 | k + 1, x0, x3 => if x3 < (x0.length : Int) then (if 0 ≤ x3 then (if ((rd_T28 x0 x3).f0) < 0 then (some false) else (if ((rd_T28 x0 x3).f1) < 0 then (some false) else (if ((rd_T28 x0 x3).f0) > 4294967295 then (some false) else (if ((rd_T28 x0 x3).f1) > 4294967295 then (some false) else (postbaglaw4_sound.l0 k x0 (wrap64 (x3 + 1))))))) else (none)) else (if (x0.length : Int) ≥ 1 then (some (decide ((x0.length : Int) ≤ 64))) else (some false))
def postbaglaw4_sound.f (k : Nat) (l0 : List (S28)) : Option (Bool) := postbaglaw4_sound.l0 k l0 0
set_option maxHeartbeats 8000000 in
set_option maxRecDepth 100000 in
theorem postbaglaw4_sound.calls (k : Nat) (A0 : Option Addr) (c0 : Nat) (l0 : List (S28)) (r : Bool) (w : World) (hr0 : Kd.C k28 w A0 l0.length l0) (hc0 : l0.length ≤ c0) (h : postbaglaw4_sound.f k l0 = some r) :
  Calls Tryd.prog 44 #[.slice A0 l0.length c0] w fun e w' => e = .returned (.bool r) ∧ Drawn0 w w' := by
 have HR0 := Aside0.mk hr0
 have HC0 := Aside0.mk hc0
 clear hr0 hc0
 have H : (postbaglaw4_sound.l0 k l0 0) = some r := h
 clear h
 have H' := Aside0.mk H
 clear H
 go_enter Tryd.func44, Tryd.ntmps44
 go_wp2
 go_loopg [3] k (fun kq v3 w' => ∃ (x3_1 : Int), v3 = .int .i64 x3_1 ∧ Aside0 (postbaglaw4_sound.l0 kq l0 x3_1 = some r) ∧ Aside0 (kq ≤ k) ∧ Drawn0 w w')
 case atStart => exact ⟨(0), (by first | rfl | (simp; done) | (simp [*]; done)), H', ⟨Nat.le_refl _⟩, by repeat (first | exact Drawn0.refl _ | apply Drawn0.step)⟩
 case round =>
  clear H'
  obtain ⟨x3_1, rfl, HA, HK1, ⟨m1, rfl⟩⟩ := hrel
  cases gk with
  | zero => exact absurd HA.out (by simp [postbaglaw4_sound.l0])
  | succ k1 =>
   have H := HA.out
   clear HA
   simp only [postbaglaw4_sound.l0] at H
   by_cases c2 : x3_1 < (l0.length : Int)
   ·rw [if_pos c2] at H
    have c2b0 : decide (x3_1 < (l0.length : Int)) = true := decide_eq_true c2
    clear c2
    by_cases c3 : 0 ≤ x3_1
    ·rw [if_pos c3] at H
     have c3b0 : decide (0 ≤ x3_1) = true := decide_eq_true c3
     clear c3
     by_cases c4 : ((rd_T28 l0 x3_1).f0) < 0
     ·rw [if_pos c4] at H
      have c4b0 : decide (((rd_T28 l0 x3_1).f0) < 0) = true := decide_eq_true c4
      clear c4
      obtain rfl := Option.some.inj H
      have p445 : 0 ≤ (x3_1 : Int) := of_decide_eq_true (by first | (with_reducible assumption) | assumption)
      have q445 : x3_1 < (l0.length : Int) := of_decide_eq_true (by first | (with_reducible assumption) | assumption)
      obtain ⟨ad445, e445, hx445_0, hx445_1⟩ := at_T28 HR0.out x3_1 p445 q445
      cases e445
      replace p445 := eq_true p445
      replace q445 := eq_true q445
      go_wp2
      go_ret
      exact ⟨by first | rfl | (simp; done) | (simp [*]; done), by repeat (first | exact Drawn0.refl _ | apply Drawn0.step)⟩
     ·rw [if_neg c4] at H
      have c4b0 : decide (((rd_T28 l0 x3_1).f0) < 0) = false := decide_eq_false c4
      clear c4
      by_cases c5 : ((rd_T28 l0 x3_1).f1) < 0
      ·rw [if_pos c5] at H
       have c5b0 : decide (((rd_T28 l0 x3_1).f1) < 0) = true := decide_eq_true c5
       clear c5
       obtain rfl := Option.some.inj H
       have p445 : 0 ≤ (x3_1 : Int) := of_decide_eq_true (by first | (with_reducible assumption) | assumption)
       have q445 : x3_1 < (l0.length : Int) := of_decide_eq_true (by first | (with_reducible assumption) | assumption)
       obtain ⟨ad445, e445, hx445_0, hx445_1⟩ := at_T28 HR0.out x3_1 p445 q445
       cases e445
       replace p445 := eq_true p445
       replace q445 := eq_true q445
       have p446 : 0 ≤ (x3_1 : Int) := of_decide_eq_true (by first | (with_reducible assumption) | assumption)
       have q446 : x3_1 < (l0.length : Int) := of_decide_eq_true (by first | (with_reducible assumption) | assumption)
       obtain ⟨ad446, e446, hx446_0, hx446_1⟩ := at_T28 HR0.out x3_1 p446 q446
       obtain rfl : ad445 = ad446 := (by injection e446)
       replace p446 := eq_true p446
       replace q446 := eq_true q446
       go_wp2
       go_ret
       exact ⟨by first | rfl | (simp; done) | (simp [*]; done), by repeat (first | exact Drawn0.refl _ | apply Drawn0.step)⟩
      ·rw [if_neg c5] at H
       have c5b0 : decide (((rd_T28 l0 x3_1).f1) < 0) = false := decide_eq_false c5
       clear c5
       by_cases c6 : ((rd_T28 l0 x3_1).f0) > 4294967295
       ·rw [if_pos c6] at H
        have c6b0 : decide (4294967295 < ((rd_T28 l0 x3_1).f0)) = true := decide_eq_true c6
        clear c6
        obtain rfl := Option.some.inj H
        have p445 : 0 ≤ (x3_1 : Int) := of_decide_eq_true (by first | (with_reducible assumption) | assumption)
        have q445 : x3_1 < (l0.length : Int) := of_decide_eq_true (by first | (with_reducible assumption) | assumption)
        obtain ⟨ad445, e445, hx445_0, hx445_1⟩ := at_T28 HR0.out x3_1 p445 q445
        cases e445
        replace p445 := eq_true p445
        replace q445 := eq_true q445
        have p446 : 0 ≤ (x3_1 : Int) := of_decide_eq_true (by first | (with_reducible assumption) | assumption)
        have q446 : x3_1 < (l0.length : Int) := of_decide_eq_true (by first | (with_reducible assumption) | assumption)
        obtain ⟨ad446, e446, hx446_0, hx446_1⟩ := at_T28 HR0.out x3_1 p446 q446
        obtain rfl : ad445 = ad446 := (by injection e446)
        replace p446 := eq_true p446
        replace q446 := eq_true q446
        have p447 : 0 ≤ (x3_1 : Int) := of_decide_eq_true (by first | (with_reducible assumption) | assumption)
        have q447 : x3_1 < (l0.length : Int) := of_decide_eq_true (by first | (with_reducible assumption) | assumption)
        obtain ⟨ad447, e447, hx447_0, hx447_1⟩ := at_T28 HR0.out x3_1 p447 q447
        obtain rfl : ad445 = ad447 := (by injection e447)
        replace p447 := eq_true p447
        replace q447 := eq_true q447
        go_wp2
        go_ret
        exact ⟨by first | rfl | (simp; done) | (simp [*]; done), by repeat (first | exact Drawn0.refl _ | apply Drawn0.step)⟩
       ·rw [if_neg c6] at H
        have c6b0 : decide (4294967295 < ((rd_T28 l0 x3_1).f0)) = false := decide_eq_false c6
        clear c6
        by_cases c7 : ((rd_T28 l0 x3_1).f1) > 4294967295
        ·rw [if_pos c7] at H
         have c7b0 : decide (4294967295 < ((rd_T28 l0 x3_1).f1)) = true := decide_eq_true c7
         clear c7
         obtain rfl := Option.some.inj H
         have p445 : 0 ≤ (x3_1 : Int) := of_decide_eq_true (by first | (with_reducible assumption) | assumption)
         have q445 : x3_1 < (l0.length : Int) := of_decide_eq_true (by first | (with_reducible assumption) | assumption)
         obtain ⟨ad445, e445, hx445_0, hx445_1⟩ := at_T28 HR0.out x3_1 p445 q445
         cases e445
         replace p445 := eq_true p445
         replace q445 := eq_true q445
         have p446 : 0 ≤ (x3_1 : Int) := of_decide_eq_true (by first | (with_reducible assumption) | assumption)
         have q446 : x3_1 < (l0.length : Int) := of_decide_eq_true (by first | (with_reducible assumption) | assumption)
         obtain ⟨ad446, e446, hx446_0, hx446_1⟩ := at_T28 HR0.out x3_1 p446 q446
         obtain rfl : ad445 = ad446 := (by injection e446)
         replace p446 := eq_true p446
         replace q446 := eq_true q446
         have p447 : 0 ≤ (x3_1 : Int) := of_decide_eq_true (by first | (with_reducible assumption) | assumption)
         have q447 : x3_1 < (l0.length : Int) := of_decide_eq_true (by first | (with_reducible assumption) | assumption)
         obtain ⟨ad447, e447, hx447_0, hx447_1⟩ := at_T28 HR0.out x3_1 p447 q447
         obtain rfl : ad445 = ad447 := (by injection e447)
         replace p447 := eq_true p447
         replace q447 := eq_true q447
         have p448 : 0 ≤ (x3_1 : Int) := of_decide_eq_true (by first | (with_reducible assumption) | assumption)
         have q448 : x3_1 < (l0.length : Int) := of_decide_eq_true (by first | (with_reducible assumption) | assumption)
         obtain ⟨ad448, e448, hx448_0, hx448_1⟩ := at_T28 HR0.out x3_1 p448 q448
         obtain rfl : ad445 = ad448 := (by injection e448)
         replace p448 := eq_true p448
         replace q448 := eq_true q448
         go_wp2
         go_ret
         exact ⟨by first | rfl | (simp; done) | (simp [*]; done), by repeat (first | exact Drawn0.refl _ | apply Drawn0.step)⟩
        ·rw [if_neg c7] at H
         have c7b0 : decide (4294967295 < ((rd_T28 l0 x3_1).f1)) = false := decide_eq_false c7
         clear c7
         have H' := Aside0.mk H
         clear H
         have p445 : 0 ≤ (x3_1 : Int) := of_decide_eq_true (by first | (with_reducible assumption) | assumption)
         have q445 : x3_1 < (l0.length : Int) := of_decide_eq_true (by first | (with_reducible assumption) | assumption)
         obtain ⟨ad445, e445, hx445_0, hx445_1⟩ := at_T28 HR0.out x3_1 p445 q445
         cases e445
         replace p445 := eq_true p445
         replace q445 := eq_true q445
         have p446 : 0 ≤ (x3_1 : Int) := of_decide_eq_true (by first | (with_reducible assumption) | assumption)
         have q446 : x3_1 < (l0.length : Int) := of_decide_eq_true (by first | (with_reducible assumption) | assumption)
         obtain ⟨ad446, e446, hx446_0, hx446_1⟩ := at_T28 HR0.out x3_1 p446 q446
         obtain rfl : ad445 = ad446 := (by injection e446)
         replace p446 := eq_true p446
         replace q446 := eq_true q446
         have p447 : 0 ≤ (x3_1 : Int) := of_decide_eq_true (by first | (with_reducible assumption) | assumption)
         have q447 : x3_1 < (l0.length : Int) := of_decide_eq_true (by first | (with_reducible assumption) | assumption)
         obtain ⟨ad447, e447, hx447_0, hx447_1⟩ := at_T28 HR0.out x3_1 p447 q447
         obtain rfl : ad445 = ad447 := (by injection e447)
         replace p447 := eq_true p447
         replace q447 := eq_true q447
         have p448 : 0 ≤ (x3_1 : Int) := of_decide_eq_true (by first | (with_reducible assumption) | assumption)
         have q448 : x3_1 < (l0.length : Int) := of_decide_eq_true (by first | (with_reducible assumption) | assumption)
         obtain ⟨ad448, e448, hx448_0, hx448_1⟩ := at_T28 HR0.out x3_1 p448 q448
         obtain rfl : ad445 = ad448 := (by injection e448)
         replace p448 := eq_true p448
         replace q448 := eq_true q448
         go_wp2
         go_roundg k1
         case measure => have := HK1.out; omega
         case rel => exact ⟨(wrap64 (x3_1 + 1)), (by first | rfl | (simp; done) | (simp [*]; done)), H', ⟨by have := HK1.out; omega⟩, by repeat (first | exact Drawn0.refl _ | apply Drawn0.step)⟩
    ·rw [if_neg c3] at H
     exact absurd H (by simp)
   ·rw [if_neg c2] at H
    have c2b0 : decide (x3_1 < (l0.length : Int)) = false := decide_eq_false c2
    clear c2
    by_cases c8 : (l0.length : Int) ≥ 1
    ·rw [if_pos c8] at H
     have c8b0 : decide (1 ≤ (l0.length : Int)) = true := decide_eq_true c8
     have c8b1 : decide (1 ≤ l0.length) = true := decide_eq_true (by omega)
     clear c8
     obtain rfl := Option.some.inj H
     go_wp2
     go_ret
     exact ⟨by first | rfl | (simp; done) | (simp [*]; done), by repeat (first | exact Drawn0.refl _ | apply Drawn0.step)⟩
    ·rw [if_neg c8] at H
     have c8b0 : decide (1 ≤ (l0.length : Int)) = false := decide_eq_false c8
     have c8b1 : decide (1 ≤ l0.length) = false := decide_eq_false (by omega)
     clear c8
     obtain rfl := Option.some.inj H
     go_wp2
     go_ret
     exact ⟨by first | rfl | (simp; done) | (simp [*]; done), by repeat (first | exact Drawn0.refl _ | apply Drawn0.step)⟩
end Go.Proofs.YtidcchopmbodkaaDoor.Sp
end
section
namespace Go.Proofs.YtidcchopmbodkaaDoor.Sp
open Go.RowKit Go.Proofs.YtidcchopmbodkaaDoorW.PrintWords Go.Proofs.YtidcchopmbodkaaDoorW.PrintLast Go.Proofs.YtidcchopmbodkaaDoorW.PrintMore
attribute [local go_sem] max2_int min2_int max_two min_two max_three min_three max_four min_four   -- for this text's walks alone
set_option linter.unusedVariables false
set_option linter.unusedSimpArgs false
mutual
def postbaglaw4_SpanBack.j0 : Nat → List (S28) → ByteArray → ByteArray → Int → Bool → Option (Bool)
 | 0, _, _, _, _, _ => none
 | k + 1, x0, x1, x5, x6, x35 => if x35 = true then (some false) else (if x6 = 0 then ((span_Parse.f x5).bind fun bt452 => (if bt452.2 = 0 then ((postbaglaw4_same.f k bt452.1 x0).bind fun t456 => (if t456 = true then (postbaglaw4_SpanBack.j1 k x1) else (some false))) else (some false))) else (postbaglaw4_SpanBack.j1 k x1))
def postbaglaw4_SpanBack.j1 : Nat → ByteArray → Option (Bool)
 | 0, _ => none
 | k + 1, x1 => (span_Parse.f x1).bind fun bt457 => (if bt457.2 = 0 then ((span_Print.f k bt457.1).bind fun bt462 => ((span_Parse.f bt462.1).bind fun bt464 => (if bt462.2 = 0 then (if bt464.2 = 0 then (if (bt462.1.size : Int) ≤ (x1.size : Int) then ((postbaglaw4_sound.f k bt457.1).bind fun t468 => (if t468 = true then ((postbaglaw4_same.f k bt464.1 bt457.1).bind fun t469 => (if t469 = true then ((postbaglaw4_known.f k).bind fun t470 => (some t470)) else (some false))) else (some false))) else (some false)) else (some false)) else (some false)))) else (if (bt457.1.length : Int) = 0 then ((postbaglaw4_known.f k).bind fun t461 => (some t461)) else (some false)))
end
def postbaglaw4_SpanBack.f (k : Nat) (l0 : List (S28)) (a1 : ByteArray) : Option (Bool) := if (l0.length : Int) > 3000 then (some true) else ((span_Print.f k l0).bind fun bt449 => ((postbaglaw4_sound.f k l0).bind fun t451 => (if ((bt449.2 == 0) != t451) = true then (postbaglaw4_SpanBack.j0 k l0 a1 bt449.1 bt449.2 true) else (if bt449.2 = 0 then (postbaglaw4_SpanBack.j0 k l0 a1 bt449.1 bt449.2 false) else (postbaglaw4_SpanBack.j0 k l0 a1 bt449.1 bt449.2 (bt449.1.toList != ([] : List UInt8)))))))
set_option maxHeartbeats 8000000 in
set_option maxRecDepth 100000 in
theorem postbaglaw4_SpanBack.calls (k : Nat) (A0 : Option Addr) (c0 : Nat) (l0 : List (S28)) (a1 : ByteArray) (r : Bool) (w : World) (hr0 : Kd.C k28 w A0 l0.length l0) (hc0 : l0.length ≤ c0) (h : postbaglaw4_SpanBack.f k l0 a1 = some r) (hL_ : Laid w) :
  Calls Tryd.prog 11 #[.slice A0 l0.length c0, .string a1] w fun e w' => e = .returned (.bool r) ∧ Below w.heap.size w w' := by
 have HL_ := Aside0.mk hL_
 clear hL_
 have HR0 := Aside0.mk hr0
 have HC0 := Aside0.mk hc0
 clear hr0 hc0
 have HB := Aside0.mk (Below.refl w.heap.size w)
 have H : (if (l0.length : Int) > 3000 then (some true) else ((span_Print.f k l0).bind fun bt449 => ((postbaglaw4_sound.f k l0).bind fun t451 => (if ((bt449.2 == 0) != t451) = true then (postbaglaw4_SpanBack.j0 k l0 a1 bt449.1 bt449.2 true) else (if bt449.2 = 0 then (postbaglaw4_SpanBack.j0 k l0 a1 bt449.1 bt449.2 false) else (postbaglaw4_SpanBack.j0 k l0 a1 bt449.1 bt449.2 (bt449.1.toList != ([] : List UInt8)))))))) = some r := h
 clear h
 by_cases c3 : (l0.length : Int) > 3000
 ·rw [if_pos c3] at H
  have c3b0 : decide (3000 < (l0.length : Int)) = true := decide_eq_true c3
  have c3b1 : decide (3000 < l0.length) = true := decide_eq_true (by omega)
  clear c3
  obtain rfl := Option.some.inj H
  go_enter Tryd.func11, Tryd.ntmps11
  go_wp2
  go_ret
  exact ⟨by first | rfl | (simp [errW_none, errW_some] <;> rfl) | (simp [*, errW_none, errW_some] <;> rfl), by repeat (first | (with_reducible first | exact HB.out | apply below_alloc | apply pw_below_drewN | apply below_drew1) | exact HB.out)⟩
 ·rw [if_neg c3] at H
  have c3b0 : decide (3000 < (l0.length : Int)) = false := decide_eq_false c3
  have c3b1 : decide (3000 < l0.length) = false := decide_eq_false (by omega)
  clear c3
  replace H := Option.bind_eq_some_iff.mp H
  obtain ⟨⟨t449, t450⟩, A40, H⟩ := H
  replace H : ((postbaglaw4_sound.f k l0).bind fun t451 => (if ((t450 == 0) != t451) = true then (postbaglaw4_SpanBack.j0 k l0 a1 t449 t450 true) else (if t450 = 0 then (postbaglaw4_SpanBack.j0 k l0 a1 t449 t450 false) else (postbaglaw4_SpanBack.j0 k l0 a1 t449 t450 (t449.toList != ([] : List UInt8)))))) = some r := H
  have A4 := Aside0.mk A40
  clear A40
  have HC5 := Aside0.mk H
  clear H
  go_enter Tryd.func11, Tryd.ntmps11
  go_upto_region 4 with (first | ((with_reducible refine gate_callee (f := 36) rfl ?_); refine goesL_ (some 20) rfl rfl Tryd.func36 (by kernel_rfl) rfl #[.slice A0 l0.length c0] rfl (by (try simp only [List.map_toArray, List.map_cons, List.map_nil]); first | done | rfl | (simp only [List.length_drop, List.length_take]; rfl)) ?_; (with_reducible refine (span_Print.calls k _ _ l0 t449 t450 _ ?side1 ?side2 A4.out (by first | exact laid_below HL_.out (by repeat (first | (with_reducible first | exact HB.out | apply below_alloc | apply pw_below_drewN | apply below_drew1) | exact HB.out)) | exact laid_drawn HL_.out (by repeat (first | exact Drawn0.refl _ | apply Drawn0.step)))).mono ?_); (case side1 => repeat (first | exact HR0.out | (with_reducible refine Kd.C_alloc ?_ _) | (with_reducible refine Kd.C_drewN ?_ _) | (with_reducible refine Kd.C_drew ?_))); (case side2 => exact HC0.out); rintro e w6 ⟨rfl, hb⟩; refine ⟨_, rfl, ?_⟩; have n0_ := Aside0.mk (below_step (by repeat (first | (with_reducible first | exact HB.out | apply below_alloc | apply pw_below_drewN | apply below_drew1) | exact HB.out)) hb); clear HB; have HB := n0_; clear n0_; (try clear hb); (try clear hb2); (try clear hk); (try clear hi)))
  (try simp only [Act.put, s1_, s2_, s3_])
  go_cut [35] (fun v35 wc => ∃ (kq : Nat) (x35_4 : Bool), v35 = .bool x35_4 ∧ Aside0 (postbaglaw4_SpanBack.j0 kq l0 a1 t449 t450 x35_4 = some r) ∧ Aside0 (kq ≤ k) ∧ Aside0 (Below w.heap.size w wc))
  case first =>
   have H := HC5.out
   clear HC5
   replace H := Option.bind_eq_some_iff.mp H
   obtain ⟨t451, A70, H⟩ := H
   replace H : (if ((t450 == 0) != t451) = true then (postbaglaw4_SpanBack.j0 k l0 a1 t449 t450 true) else (if t450 = 0 then (postbaglaw4_SpanBack.j0 k l0 a1 t449 t450 false) else (postbaglaw4_SpanBack.j0 k l0 a1 t449 t450 (t449.toList != ([] : List UInt8))))) = some r := H
   have A7 := Aside0.mk A70
   clear A70
   by_cases c8 : ((t450 == 0) != t451) = true
   ·rw [if_pos c8] at H
    have c8b0 : ((t450 == 0) != t451) = true := c8
    (try (have c8b1 : decide ((t450 == 0) = t451) = false := by simpa using c8))
    (try (have c8b2 : ((t450 == 0) == t451) = false := by simpa using c8))
    (try (have c8b3 : ¬ ((t450 == 0) = t451) := by simpa using c8))
    clear c8
    (first | rw [c8b0] | (simp only [i64_w, i32_w]; rw [c8b0]) | skip)
    have H' := Aside0.mk H
    clear H
    go_wp2_with (first | ((with_reducible refine gate_callee (f := 44) rfl ?_); refine goesL_ (some 26) rfl rfl Tryd.func44 (by kernel_rfl) rfl #[.slice A0 l0.length c0] rfl (by (try simp only [List.map_toArray, List.map_cons, List.map_nil]); first | done | rfl | (simp only [List.length_drop, List.length_take]; rfl)) ?_; (with_reducible refine (postbaglaw4_sound.calls k _ _ l0 t451 _ ?side1 ?side2 A7.out).mono ?_); (case side1 => repeat (first | exact (Kd.C_below HR0.out HB.out) | (with_reducible refine Kd.C_alloc ?_ _) | (with_reducible refine Kd.C_drewN ?_ _) | (with_reducible refine Kd.C_drew ?_))); (case side2 => exact HC0.out); rintro e w' ⟨rfl, ⟨nd, rfl⟩⟩; refine ⟨_, rfl, ?_⟩))

    all_goals (go_meet; case rel => exact ⟨_, (true), (by first | rfl | (simp; done) | (simp [*]; done) | (cases h_ : t449.toList <;> rfl)), H', ⟨by first | omega | exact Nat.le_refl _⟩, ⟨by repeat (first | (with_reducible first | exact HB.out | apply below_alloc | apply pw_below_drewN | apply below_drew1) | exact HB.out)⟩⟩)
   ·rw [if_neg c8] at H
    have c8b0 : ((t450 == 0) != t451) = false := by simpa using c8
    (try (have c8b1 : decide ((t450 == 0) = t451) = true := by simpa using c8))
    (try (have c8b2 : ((t450 == 0) == t451) = true := by simpa using c8))
    clear c8
    (first | rw [c8b0] | (simp only [i64_w, i32_w]; rw [c8b0]) | skip)
    by_cases c9 : t450 = 0
    ·rw [if_pos c9] at H
     have c9b0 : (t450 == 0) = true := beq_iff_eq.mpr c9
     have c9b1 : (t450 != 0) = false := bne_eq_false_iff_eq.mpr c9
     have e_ : t451 = true := by rw [c9b0] at c8b0; cases t451 <;> simp at c8b0 ⊢
     subst e_
     clear c9
     have H' := Aside0.mk H
     clear H
     go_wp2_with (first | ((with_reducible refine gate_callee (f := 44) rfl ?_); refine goesL_ (some 26) rfl rfl Tryd.func44 (by kernel_rfl) rfl #[.slice A0 l0.length c0] rfl (by (try simp only [List.map_toArray, List.map_cons, List.map_nil]); first | done | rfl | (simp only [List.length_drop, List.length_take]; rfl)) ?_; (with_reducible refine (postbaglaw4_sound.calls k _ _ l0 true _ ?side1 ?side2 A7.out).mono ?_); (case side1 => repeat (first | exact (Kd.C_below HR0.out HB.out) | (with_reducible refine Kd.C_alloc ?_ _) | (with_reducible refine Kd.C_drewN ?_ _) | (with_reducible refine Kd.C_drew ?_))); (case side2 => exact HC0.out); rintro e w' ⟨rfl, ⟨nd, rfl⟩⟩; refine ⟨_, rfl, ?_⟩))

     all_goals (go_meet; case rel => exact ⟨_, (false), (by first | rfl | (simp; done) | (simp [*]; done) | (cases h_ : t449.toList <;> rfl)), H', ⟨by first | omega | exact Nat.le_refl _⟩, ⟨by repeat (first | (with_reducible first | exact HB.out | apply below_alloc | apply pw_below_drewN | apply below_drew1) | exact HB.out)⟩⟩)
    ·rw [if_neg c9] at H
     have c9b0 : (t450 == 0) = false := beq_eq_false_iff_ne.mpr c9
     have c9b1 : (t450 != 0) = true := bne_iff_ne.mpr c9
     have e_ : t451 = false := by rw [c9b0] at c8b0; cases t451 <;> simp at c8b0 ⊢
     subst e_
     have H' := Aside0.mk H
     clear H
     go_wp2_with (first | ((with_reducible refine gate_callee (f := 44) rfl ?_); refine goesL_ (some 26) rfl rfl Tryd.func44 (by kernel_rfl) rfl #[.slice A0 l0.length c0] rfl (by (try simp only [List.map_toArray, List.map_cons, List.map_nil]); first | done | rfl | (simp only [List.length_drop, List.length_take]; rfl)) ?_; (with_reducible refine (postbaglaw4_sound.calls k _ _ l0 false _ ?side1 ?side2 A7.out).mono ?_); (case side1 => repeat (first | exact (Kd.C_below HR0.out HB.out) | (with_reducible refine Kd.C_alloc ?_ _) | (with_reducible refine Kd.C_drewN ?_ _) | (with_reducible refine Kd.C_drew ?_))); (case side2 => exact HC0.out); rintro e w' ⟨rfl, ⟨nd, rfl⟩⟩; refine ⟨_, rfl, ?_⟩))

     all_goals (go_meet; case rel => exact ⟨_, ((t449.toList != ([] : List UInt8))), (by first | rfl | (simp; done) | (simp [*]; done) | (cases h_ : t449.toList <;> rfl)), H', ⟨by first | omega | exact Nat.le_refl _⟩, ⟨by repeat (first | (with_reducible first | exact HB.out | apply below_alloc | apply pw_below_drewN | apply below_drew1) | exact HB.out)⟩⟩)
  case rest =>
   clear HC5
   try clear c1
   try clear p2
   try clear c3
   try clear c3b0
   try clear c3b1
   try clear c4
   try clear c8
   try clear c8b0
   try clear c8b1
   try clear c8b2
   try clear c9
   try clear c9b0
   try clear c9b1
   obtain ⟨kq, x35_4, rfl, HA, HJ4, HB⟩ := hcut
   cases kq with
   | zero => exact absurd HA.out (by simp [postbaglaw4_SpanBack.j0])
   | succ kj4 =>
    have H := HA.out
    clear HA
    simp only [postbaglaw4_SpanBack.j0] at H
    by_cases c10 : x35_4 = true
    ·subst c10
     have H1 : (some false) = some r := by rw [if_pos rfl] at H; exact H
     clear H
     have H := H1
     clear H1
     obtain rfl := Option.some.inj H
     go_wp2
     go_ret
     exact ⟨by first | rfl | (simp [errW_none, errW_some] <;> rfl) | (simp [*, errW_none, errW_some] <;> rfl), by repeat (first | (with_reducible first | exact HB.out | apply below_alloc | apply pw_below_drewN | apply below_drew1) | exact HB.out)⟩
    ·replace c10 := Bool.eq_false_iff.mpr c10
     subst c10
     have H1 : (if t450 = 0 then ((span_Parse.f t449).bind fun bt452 => (if bt452.2 = 0 then ((postbaglaw4_same.f kj4 bt452.1 l0).bind fun t456 => (if t456 = true then (postbaglaw4_SpanBack.j1 kj4 a1) else (some false))) else (some false))) else (postbaglaw4_SpanBack.j1 kj4 a1)) = some r := by rw [if_neg (show ¬ (false = true) by decide)] at H; exact H
     clear H
     have H := H1
     clear H1
     have HC11 := Aside0.mk H
     clear H
     go_upto_if 37 with (fail)
     go_cut [] (fun wc => ∃ (kq : Nat), Aside0 (postbaglaw4_SpanBack.j1 kq a1 = some r) ∧ Aside0 (kq ≤ kj4) ∧ Aside0 (Below w.heap.size w wc))
     case first =>
      have H := HC11.out
      clear HC11
      by_cases c12 : t450 = 0
      ·rw [if_pos c12] at H
       have c12b0 : (t450 == 0) = true := beq_iff_eq.mpr c12
       have c12b1 : (t450 != 0) = false := bne_eq_false_iff_eq.mpr c12
       clear c12
       (first | rw [c12b0] | (simp only [i64_w, i32_w]; rw [c12b0]) | skip)
       replace H := Option.bind_eq_some_iff.mp H
       obtain ⟨⟨t452, t453⟩, A130, H⟩ := H
       replace H : (if t453 = 0 then ((postbaglaw4_same.f kj4 t452 l0).bind fun t456 => (if t456 = true then (postbaglaw4_SpanBack.j1 kj4 a1) else (some false))) else (some false)) = some r := H
       have A13 := Aside0.mk A130
       clear A130
       by_cases c14 : t453 = 0
       ·rw [if_pos c14] at H
        have c14b0 : (t453 == 0) = true := beq_iff_eq.mpr c14
        have c14b1 : (t453 != 0) = false := bne_eq_false_iff_eq.mpr c14
        clear c14
        replace H := Option.bind_eq_some_iff.mp H
        obtain ⟨t456, A150, H⟩ := H
        replace H : (if t456 = true then (postbaglaw4_SpanBack.j1 kj4 a1) else (some false)) = some r := H
        have A15 := Aside0.mk A150
        clear A150
        by_cases c16 : t456 = true
        ·subst c16
         have H1 : (postbaglaw4_SpanBack.j1 kj4 a1) = some r := by rw [if_pos rfl] at H; exact H
         clear H
         have H := H1
         clear H1
         have H' := Aside0.mk H
         clear H
         go_wp2_with (first | ((with_reducible refine gate_callee (f := 23) rfl ?_); refine goesL_ (some 40) rfl rfl Tryd.func23 (by kernel_rfl) rfl #[.string t449] rfl (by (try simp only [List.map_toArray, List.map_cons, List.map_nil]); first | done | rfl | (simp only [List.length_drop, List.length_take]; rfl)) ?_; (with_reducible refine (span_Parse.calls t449 t452 t453 _ A13.out).mono ?_); rintro e w17 ⟨v454, rfl, ho0, hb⟩; refine ⟨_, rfl, ?_⟩; have n0_ := Aside0.mk (Kd.R_lower ho0 (below_size (by repeat (first | (with_reducible first | exact HB.out | apply below_alloc | apply pw_below_drewN | apply below_drew1) | exact HB.out)))); have n1_ := Aside0.mk (below_step (by repeat (first | (with_reducible first | exact HB.out | apply below_alloc | apply pw_below_drewN | apply below_drew1) | exact HB.out)) hb); clear HB; have HO455 := n0_; have HB := n1_; clear n0_ n1_; (try clear hb); (try clear hb2); (try clear hk); (try clear hi); (try clear ho0); obtain ⟨Ao18, co18, eo18⟩ := Kd.R_slice HO455.out; subst eo18) | (go_at_call 26; (with_reducible refine (postbaglaw4_same.calls kj4 _ _ t452 _ _ l0 true _ ?side1 ?side2 ?side3 ?side4 A15.out).mono ?_); (case side1 => repeat (first | exact (Kd.R_reads' HO455.out).2.2 | (with_reducible refine Kd.C_alloc ?_ _) | (with_reducible refine Kd.C_drewN ?_ _) | (with_reducible refine Kd.C_drew ?_))); (case side2 => exact (Kd.R_reads' HO455.out).2.1); (case side3 => repeat (first | exact (Kd.C_below HR0.out HB.out) | (with_reducible refine Kd.C_alloc ?_ _) | (with_reducible refine Kd.C_drewN ?_ _) | (with_reducible refine Kd.C_drew ?_))); (case side4 => exact HC0.out); rintro e w' ⟨rfl, ⟨nd, rfl⟩⟩))
         go_meet
         case rel => exact ⟨_, H', ⟨by have := HJ4.out; first | omega | exact Nat.le_refl _⟩, ⟨by repeat (first | (with_reducible first | exact HB.out | apply below_alloc | apply pw_below_drewN | apply below_drew1) | exact HB.out)⟩⟩
        ·replace c16 := Bool.eq_false_iff.mpr c16
         subst c16
         have H1 : (some false) = some r := by rw [if_neg (show ¬ (false = true) by decide)] at H; exact H
         clear H
         have H := H1
         clear H1
         obtain rfl := Option.some.inj H
         go_wp2_with (first | ((with_reducible refine gate_callee (f := 23) rfl ?_); refine goesL_ (some 40) rfl rfl Tryd.func23 (by kernel_rfl) rfl #[.string t449] rfl (by (try simp only [List.map_toArray, List.map_cons, List.map_nil]); first | done | rfl | (simp only [List.length_drop, List.length_take]; rfl)) ?_; (with_reducible refine (span_Parse.calls t449 t452 t453 _ A13.out).mono ?_); rintro e w19 ⟨v454, rfl, ho0, hb⟩; refine ⟨_, rfl, ?_⟩; have n0_ := Aside0.mk (Kd.R_lower ho0 (below_size (by repeat (first | (with_reducible first | exact HB.out | apply below_alloc | apply pw_below_drewN | apply below_drew1) | exact HB.out)))); have n1_ := Aside0.mk (below_step (by repeat (first | (with_reducible first | exact HB.out | apply below_alloc | apply pw_below_drewN | apply below_drew1) | exact HB.out)) hb); clear HB; have HO455 := n0_; have HB := n1_; clear n0_ n1_; (try clear hb); (try clear hb2); (try clear hk); (try clear hi); (try clear ho0); obtain ⟨Ao20, co20, eo20⟩ := Kd.R_slice HO455.out; subst eo20) | (go_at_call 26; (with_reducible refine (postbaglaw4_same.calls kj4 _ _ t452 _ _ l0 false _ ?side1 ?side2 ?side3 ?side4 A15.out).mono ?_); (case side1 => repeat (first | exact (Kd.R_reads' HO455.out).2.2 | (with_reducible refine Kd.C_alloc ?_ _) | (with_reducible refine Kd.C_drewN ?_ _) | (with_reducible refine Kd.C_drew ?_))); (case side2 => exact (Kd.R_reads' HO455.out).2.1); (case side3 => repeat (first | exact (Kd.C_below HR0.out HB.out) | (with_reducible refine Kd.C_alloc ?_ _) | (with_reducible refine Kd.C_drewN ?_ _) | (with_reducible refine Kd.C_drew ?_))); (case side4 => exact HC0.out); rintro e w' ⟨rfl, ⟨nd, rfl⟩⟩))
         go_ret
         exact ⟨by first | rfl | (simp [errW_none, errW_some] <;> rfl) | (simp [*, errW_none, errW_some] <;> rfl), by repeat (first | (with_reducible first | exact HB.out | apply below_alloc | apply pw_below_drewN | apply below_drew1) | exact HB.out)⟩
       ·rw [if_neg c14] at H
        have c14b0 : (t453 == 0) = false := beq_eq_false_iff_ne.mpr c14
        have c14b1 : (t453 != 0) = true := bne_iff_ne.mpr c14
        obtain rfl := Option.some.inj H
        go_wp2_with (first | ((with_reducible refine gate_callee (f := 23) rfl ?_); refine goesL_ (some 40) rfl rfl Tryd.func23 (by kernel_rfl) rfl #[.string t449] rfl (by (try simp only [List.map_toArray, List.map_cons, List.map_nil]); first | done | rfl | (simp only [List.length_drop, List.length_take]; rfl)) ?_; (with_reducible refine (span_Parse.calls t449 t452 t453 _ A13.out).mono ?_); rintro e w21 ⟨v454, rfl, ho0, hb⟩; refine ⟨_, rfl, ?_⟩; have n0_ := Aside0.mk (Kd.R_lower ho0 (below_size (by repeat (first | (with_reducible first | exact HB.out | apply below_alloc | apply pw_below_drewN | apply below_drew1) | exact HB.out)))); have n1_ := Aside0.mk (below_step (by repeat (first | (with_reducible first | exact HB.out | apply below_alloc | apply pw_below_drewN | apply below_drew1) | exact HB.out)) hb); clear HB; have HO455 := n0_; have HB := n1_; clear n0_ n1_; (try clear hb); (try clear hb2); (try clear hk); (try clear hi); (try clear ho0)))
        go_ret
        exact ⟨by first | rfl | (simp [errW_none, errW_some] <;> rfl) | (simp [*, errW_none, errW_some] <;> rfl), by repeat (first | (with_reducible first | exact HB.out | apply below_alloc | apply pw_below_drewN | apply below_drew1) | exact HB.out)⟩
      ·rw [if_neg c12] at H
       have c12b0 : (t450 == 0) = false := beq_eq_false_iff_ne.mpr c12
       have c12b1 : (t450 != 0) = true := bne_iff_ne.mpr c12
       (first | rw [c12b0] | (simp only [i64_w, i32_w]; rw [c12b0]) | skip)
       have H' := Aside0.mk H
       clear H
       go_wp2
       go_meet
       case rel => exact ⟨_, H', ⟨by have := HJ4.out; first | omega | exact Nat.le_refl _⟩, ⟨by repeat (first | (with_reducible first | exact HB.out | apply below_alloc | apply pw_below_drewN | apply below_drew1) | exact HB.out)⟩⟩
     case rest =>
      clear HC11
      try clear c1
      try clear c2
      try clear p2
      try clear c3
      try clear c3b0
      try clear c3b1
      try clear c4
      try clear c8
      try clear c8b0
      try clear c8b1
      try clear c8b2
      try clear c9
      try clear c9b0
      try clear c9b1
      try clear c10
      try clear c11
      try clear c12
      try clear c12b0
      try clear c12b1
      try clear c14
      try clear c14b0
      try clear c14b1
      try clear c16
      try clear p2
      obtain ⟨kq, HA, HJ10, HB⟩ := hcut
      cases kq with
      | zero => exact absurd HA.out (by simp [postbaglaw4_SpanBack.j1])
      | succ kj10 =>
       have H := HA.out
       clear HA
       simp only [postbaglaw4_SpanBack.j1] at H
       replace H := Option.bind_eq_some_iff.mp H
       obtain ⟨⟨t457, t458⟩, A220, H⟩ := H
       replace H : (if t458 = 0 then ((span_Print.f kj10 t457).bind fun bt462 => ((span_Parse.f bt462.1).bind fun bt464 => (if bt462.2 = 0 then (if bt464.2 = 0 then (if (bt462.1.size : Int) ≤ (a1.size : Int) then ((postbaglaw4_sound.f kj10 t457).bind fun t468 => (if t468 = true then ((postbaglaw4_same.f kj10 bt464.1 t457).bind fun t469 => (if t469 = true then ((postbaglaw4_known.f kj10).bind fun t470 => (some t470)) else (some false))) else (some false))) else (some false)) else (some false)) else (some false)))) else (if (t457.length : Int) = 0 then ((postbaglaw4_known.f kj10).bind fun t461 => (some t461)) else (some false))) = some r := H
       have A22 := Aside0.mk A220
       clear A220
       by_cases c23 : t458 = 0
       ·rw [if_pos c23] at H
        have c23b0 : (t458 == 0) = true := beq_iff_eq.mpr c23
        have c23b1 : (t458 != 0) = false := bne_eq_false_iff_eq.mpr c23
        clear c23
        replace H := Option.bind_eq_some_iff.mp H
        obtain ⟨⟨t462, t463⟩, A240, H⟩ := H
        replace H : ((span_Parse.f t462).bind fun bt464 => (if t463 = 0 then (if bt464.2 = 0 then (if (t462.size : Int) ≤ (a1.size : Int) then ((postbaglaw4_sound.f kj10 t457).bind fun t468 => (if t468 = true then ((postbaglaw4_same.f kj10 bt464.1 t457).bind fun t469 => (if t469 = true then ((postbaglaw4_known.f kj10).bind fun t470 => (some t470)) else (some false))) else (some false))) else (some false)) else (some false)) else (some false))) = some r := H
        have A24 := Aside0.mk A240
        clear A240
        replace H := Option.bind_eq_some_iff.mp H
        obtain ⟨⟨t464, t465⟩, A250, H⟩ := H
        replace H : (if t463 = 0 then (if t465 = 0 then (if (t462.size : Int) ≤ (a1.size : Int) then ((postbaglaw4_sound.f kj10 t457).bind fun t468 => (if t468 = true then ((postbaglaw4_same.f kj10 t464 t457).bind fun t469 => (if t469 = true then ((postbaglaw4_known.f kj10).bind fun t470 => (some t470)) else (some false))) else (some false))) else (some false)) else (some false)) else (some false)) = some r := H
        have A25 := Aside0.mk A250
        clear A250
        by_cases c26 : t463 = 0
        ·rw [if_pos c26] at H
         have c26b0 : (t463 == 0) = true := beq_iff_eq.mpr c26
         have c26b1 : (t463 != 0) = false := bne_eq_false_iff_eq.mpr c26
         clear c26
         by_cases c27 : t465 = 0
         ·rw [if_pos c27] at H
          have c27b0 : (t465 == 0) = true := beq_iff_eq.mpr c27
          have c27b1 : (t465 != 0) = false := bne_eq_false_iff_eq.mpr c27
          clear c27
          by_cases c28 : (t462.size : Int) ≤ (a1.size : Int)
          ·rw [if_pos c28] at H
           have c28b0 : decide ((t462.size : Int) ≤ (a1.size : Int)) = true := decide_eq_true c28
           have c28b1 : decide (t462.size ≤ a1.size) = true := decide_eq_true (Int.ofNat_le.mp c28)
           clear c28
           replace H := Option.bind_eq_some_iff.mp H
           obtain ⟨t468, A290, H⟩ := H
           replace H : (if t468 = true then ((postbaglaw4_same.f kj10 t464 t457).bind fun t469 => (if t469 = true then ((postbaglaw4_known.f kj10).bind fun t470 => (some t470)) else (some false))) else (some false)) = some r := H
           have A29 := Aside0.mk A290
           clear A290
           by_cases c30 : t468 = true
           ·subst c30
            have H1 : ((postbaglaw4_same.f kj10 t464 t457).bind fun t469 => (if t469 = true then ((postbaglaw4_known.f kj10).bind fun t470 => (some t470)) else (some false))) = some r := by rw [if_pos rfl] at H; exact H
            clear H
            have H := H1
            clear H1
            replace H := Option.bind_eq_some_iff.mp H
            obtain ⟨t469, A310, H⟩ := H
            replace H : (if t469 = true then ((postbaglaw4_known.f kj10).bind fun t470 => (some t470)) else (some false)) = some r := H
            have A31 := Aside0.mk A310
            clear A310
            by_cases c32 : t469 = true
            ·subst c32
             have H1 : ((postbaglaw4_known.f kj10).bind fun t470 => (some t470)) = some r := by rw [if_pos rfl] at H; exact H
             clear H
             have H := H1
             clear H1
             replace H := Option.bind_eq_some_iff.mp H
             obtain ⟨t470, A330, H⟩ := H
             replace H : (some t470) = some r := H
             have A33 := Aside0.mk A330
             clear A330
             obtain rfl := Option.some.inj H
             go_wp2_with (first | ((with_reducible refine gate_callee (f := 23) rfl ?_); refine goesL_ (some 53) rfl rfl Tryd.func23 (by kernel_rfl) rfl #[.string a1] rfl (by (try simp only [List.map_toArray, List.map_cons, List.map_nil]); first | done | rfl | (simp only [List.length_drop, List.length_take]; rfl)) ?_; (with_reducible refine (span_Parse.calls a1 t457 t458 _ A22.out).mono ?_); rintro e w34 ⟨v459, rfl, ho0, hb⟩; refine ⟨_, rfl, ?_⟩; have n0_ := Aside0.mk (Kd.R_lower ho0 (below_size (by repeat (first | (with_reducible first | exact HB.out | apply below_alloc | apply pw_below_drewN | apply below_drew1) | exact HB.out)))); have n1_ := Aside0.mk (below_step (by repeat (first | (with_reducible first | exact HB.out | apply below_alloc | apply pw_below_drewN | apply below_drew1) | exact HB.out)) hb); clear HB; have HO460 := n0_; have HB := n1_; clear n0_ n1_; (try clear hb); (try clear hb2); (try clear hk); (try clear hi); (try clear ho0); obtain ⟨Ao35, co35, eo35⟩ := Kd.R_slice HO460.out; subst eo35) | ((with_reducible refine gate_callee (f := 36) rfl ?_); refine goesL_ (some 66) rfl rfl Tryd.func36 (by kernel_rfl) rfl #[.slice Ao35 t457.length co35] rfl (by (try simp only [List.map_toArray, List.map_cons, List.map_nil]); first | done | rfl | (simp only [List.length_drop, List.length_take]; rfl)) ?_; (with_reducible refine (span_Print.calls kj10 _ _ t457 t462 t463 _ ?side1 ?side2 A24.out (by first | exact laid_below HL_.out (by repeat (first | (with_reducible first | exact HB.out | apply below_alloc | apply pw_below_drewN | apply below_drew1) | exact HB.out)) | exact laid_drawn HL_.out (by repeat (first | exact Drawn0.refl _ | apply Drawn0.step)))).mono ?_); (case side1 => repeat (first | exact (Kd.R_reads' HO460.out).2.2 | (with_reducible refine Kd.C_alloc ?_ _) | (with_reducible refine Kd.C_drewN ?_ _) | (with_reducible refine Kd.C_drew ?_))); (case side2 => exact (Kd.R_reads' HO460.out).2.1); rintro e w36 ⟨rfl, hb⟩; refine ⟨_, rfl, ?_⟩; have n0_ := Aside0.mk (Kd.R_below (by (with_reducible repeat (first | apply Kd.R_alloc | apply Kd.R_drewN | apply Kd.R_drew)); exact HO460.out) hb); have n1_ := Aside0.mk (below_step (by repeat (first | (with_reducible first | exact HB.out | apply below_alloc | apply pw_below_drewN | apply below_drew1) | exact HB.out)) hb); clear HO460; clear HB; have HO460 := n0_; have HB := n1_; clear n0_ n1_; (try clear hb); (try clear hb2); (try clear hk); (try clear hi)) | ((with_reducible refine gate_callee (f := 23) rfl ?_); refine goesL_ (some 71) rfl rfl Tryd.func23 (by kernel_rfl) rfl #[.string t462] rfl (by (try simp only [List.map_toArray, List.map_cons, List.map_nil]); first | done | rfl | (simp only [List.length_drop, List.length_take]; rfl)) ?_; (with_reducible refine (span_Parse.calls t462 t464 t465 _ A25.out).mono ?_); rintro e w37 ⟨v466, rfl, ho0, hb⟩; refine ⟨_, rfl, ?_⟩; have n0_ := Aside0.mk (Kd.R_elder' (by (with_reducible repeat (first | apply Kd.R_alloc | apply Kd.R_drewN | apply Kd.R_drew)); exact HO460.out) (Kd.R_base ho0) hb); have n1_ := Aside0.mk (Kd.R_lower (Kd.R_new' ho0 (Kd.R_lt (by (with_reducible repeat (first | apply Kd.R_alloc | apply Kd.R_drewN | apply Kd.R_drew)); exact HO460.out))) (below_size (by repeat (first | (with_reducible first | exact HB.out | apply below_alloc | apply pw_below_drewN | apply below_drew1) | exact HB.out)))); have n2_ := Aside0.mk (below_step (by repeat (first | (with_reducible first | exact HB.out | apply below_alloc | apply pw_below_drewN | apply below_drew1) | exact HB.out)) hb); clear HO460; clear HB; have HO460 := n0_; have HO467 := n1_; have HB := n2_; clear n0_ n1_ n2_; (try clear hb); (try clear hb2); (try clear hk); (try clear hi); (try clear ho0)) | (go_at_call 44; (with_reducible refine (postbaglaw4_sound.calls kj10 _ _ t457 true _ ?side1 ?side2 A29.out).mono ?_); (case side1 => repeat (first | exact (Kd.R_reads' HO460.out).2.2 | (with_reducible refine Kd.C_alloc ?_ _) | (with_reducible refine Kd.C_drewN ?_ _) | (with_reducible refine Kd.C_drew ?_))); (case side2 => exact (Kd.R_reads' HO460.out).2.1); rintro e w' ⟨rfl, ⟨nd, rfl⟩⟩; obtain ⟨Ao38, co38, eo38⟩ := Kd.R_slice HO467.out; subst eo38) | (go_at_call 26; (with_reducible refine (postbaglaw4_same.calls kj10 _ _ t464 _ _ t457 true _ ?side1 ?side2 ?side3 ?side4 A31.out).mono ?_); (case side1 => repeat (first | exact (Kd.R_reads' HO467.out).2.2 | (with_reducible refine Kd.C_alloc ?_ _) | (with_reducible refine Kd.C_drewN ?_ _) | (with_reducible refine Kd.C_drew ?_))); (case side2 => exact (Kd.R_reads' HO467.out).2.1); (case side3 => repeat (first | exact (Kd.R_reads' HO460.out).2.2 | (with_reducible refine Kd.C_alloc ?_ _) | (with_reducible refine Kd.C_drewN ?_ _) | (with_reducible refine Kd.C_drew ?_))); (case side4 => exact (Kd.R_reads' HO460.out).2.1); rintro e w' ⟨rfl, ⟨nd, rfl⟩⟩) | (go_at_call 20; (with_reducible refine (postbaglaw4_known.calls kj10  t470 _ A33.out (by first | exact laid_below HL_.out (by repeat (first | (with_reducible first | exact HB.out | apply below_alloc | apply pw_below_drewN | apply below_drew1) | exact HB.out)) | exact laid_drawn HL_.out (by repeat (first | exact Drawn0.refl _ | apply Drawn0.step)))).mono ?_); rintro e w39 ⟨rfl, hb⟩; have n0_ := Aside0.mk (Kd.R_below (by (with_reducible repeat (first | apply Kd.R_alloc | apply Kd.R_drewN | apply Kd.R_drew)); exact HO460.out) hb); have n1_ := Aside0.mk (Kd.R_below (by (with_reducible repeat (first | apply Kd.R_alloc | apply Kd.R_drewN | apply Kd.R_drew)); exact HO467.out) hb); have n2_ := Aside0.mk (below_step (by repeat (first | (with_reducible first | exact HB.out | apply below_alloc | apply pw_below_drewN | apply below_drew1) | exact HB.out)) hb); clear HO460; clear HO467; clear HB; have HO460 := n0_; have HO467 := n1_; have HB := n2_; clear n0_ n1_ n2_; (try clear hb); (try clear hb2); (try clear hk); (try clear hi)))
             go_ret
             exact ⟨by first | rfl | (simp [errW_none, errW_some] <;> rfl) | (simp [*, errW_none, errW_some] <;> rfl), by repeat (first | (with_reducible first | exact HB.out | apply below_alloc | apply pw_below_drewN | apply below_drew1) | exact HB.out)⟩
            ·replace c32 := Bool.eq_false_iff.mpr c32
             subst c32
             have H1 : (some false) = some r := by rw [if_neg (show ¬ (false = true) by decide)] at H; exact H
             clear H
             have H := H1
             clear H1
             obtain rfl := Option.some.inj H
             go_wp2_with (first | ((with_reducible refine gate_callee (f := 23) rfl ?_); refine goesL_ (some 53) rfl rfl Tryd.func23 (by kernel_rfl) rfl #[.string a1] rfl (by (try simp only [List.map_toArray, List.map_cons, List.map_nil]); first | done | rfl | (simp only [List.length_drop, List.length_take]; rfl)) ?_; (with_reducible refine (span_Parse.calls a1 t457 t458 _ A22.out).mono ?_); rintro e w40 ⟨v459, rfl, ho0, hb⟩; refine ⟨_, rfl, ?_⟩; have n0_ := Aside0.mk (Kd.R_lower ho0 (below_size (by repeat (first | (with_reducible first | exact HB.out | apply below_alloc | apply pw_below_drewN | apply below_drew1) | exact HB.out)))); have n1_ := Aside0.mk (below_step (by repeat (first | (with_reducible first | exact HB.out | apply below_alloc | apply pw_below_drewN | apply below_drew1) | exact HB.out)) hb); clear HB; have HO460 := n0_; have HB := n1_; clear n0_ n1_; (try clear hb); (try clear hb2); (try clear hk); (try clear hi); (try clear ho0); obtain ⟨Ao41, co41, eo41⟩ := Kd.R_slice HO460.out; subst eo41) | ((with_reducible refine gate_callee (f := 36) rfl ?_); refine goesL_ (some 66) rfl rfl Tryd.func36 (by kernel_rfl) rfl #[.slice Ao41 t457.length co41] rfl (by (try simp only [List.map_toArray, List.map_cons, List.map_nil]); first | done | rfl | (simp only [List.length_drop, List.length_take]; rfl)) ?_; (with_reducible refine (span_Print.calls kj10 _ _ t457 t462 t463 _ ?side1 ?side2 A24.out (by first | exact laid_below HL_.out (by repeat (first | (with_reducible first | exact HB.out | apply below_alloc | apply pw_below_drewN | apply below_drew1) | exact HB.out)) | exact laid_drawn HL_.out (by repeat (first | exact Drawn0.refl _ | apply Drawn0.step)))).mono ?_); (case side1 => repeat (first | exact (Kd.R_reads' HO460.out).2.2 | (with_reducible refine Kd.C_alloc ?_ _) | (with_reducible refine Kd.C_drewN ?_ _) | (with_reducible refine Kd.C_drew ?_))); (case side2 => exact (Kd.R_reads' HO460.out).2.1); rintro e w42 ⟨rfl, hb⟩; refine ⟨_, rfl, ?_⟩; have n0_ := Aside0.mk (Kd.R_below (by (with_reducible repeat (first | apply Kd.R_alloc | apply Kd.R_drewN | apply Kd.R_drew)); exact HO460.out) hb); have n1_ := Aside0.mk (below_step (by repeat (first | (with_reducible first | exact HB.out | apply below_alloc | apply pw_below_drewN | apply below_drew1) | exact HB.out)) hb); clear HO460; clear HB; have HO460 := n0_; have HB := n1_; clear n0_ n1_; (try clear hb); (try clear hb2); (try clear hk); (try clear hi)) | ((with_reducible refine gate_callee (f := 23) rfl ?_); refine goesL_ (some 71) rfl rfl Tryd.func23 (by kernel_rfl) rfl #[.string t462] rfl (by (try simp only [List.map_toArray, List.map_cons, List.map_nil]); first | done | rfl | (simp only [List.length_drop, List.length_take]; rfl)) ?_; (with_reducible refine (span_Parse.calls t462 t464 t465 _ A25.out).mono ?_); rintro e w43 ⟨v466, rfl, ho0, hb⟩; refine ⟨_, rfl, ?_⟩; have n0_ := Aside0.mk (Kd.R_elder' (by (with_reducible repeat (first | apply Kd.R_alloc | apply Kd.R_drewN | apply Kd.R_drew)); exact HO460.out) (Kd.R_base ho0) hb); have n1_ := Aside0.mk (Kd.R_lower (Kd.R_new' ho0 (Kd.R_lt (by (with_reducible repeat (first | apply Kd.R_alloc | apply Kd.R_drewN | apply Kd.R_drew)); exact HO460.out))) (below_size (by repeat (first | (with_reducible first | exact HB.out | apply below_alloc | apply pw_below_drewN | apply below_drew1) | exact HB.out)))); have n2_ := Aside0.mk (below_step (by repeat (first | (with_reducible first | exact HB.out | apply below_alloc | apply pw_below_drewN | apply below_drew1) | exact HB.out)) hb); clear HO460; clear HB; have HO460 := n0_; have HO467 := n1_; have HB := n2_; clear n0_ n1_ n2_; (try clear hb); (try clear hb2); (try clear hk); (try clear hi); (try clear ho0)) | (go_at_call 44; (with_reducible refine (postbaglaw4_sound.calls kj10 _ _ t457 true _ ?side1 ?side2 A29.out).mono ?_); (case side1 => repeat (first | exact (Kd.R_reads' HO460.out).2.2 | (with_reducible refine Kd.C_alloc ?_ _) | (with_reducible refine Kd.C_drewN ?_ _) | (with_reducible refine Kd.C_drew ?_))); (case side2 => exact (Kd.R_reads' HO460.out).2.1); rintro e w' ⟨rfl, ⟨nd, rfl⟩⟩; obtain ⟨Ao44, co44, eo44⟩ := Kd.R_slice HO467.out; subst eo44) | (go_at_call 26; (with_reducible refine (postbaglaw4_same.calls kj10 _ _ t464 _ _ t457 false _ ?side1 ?side2 ?side3 ?side4 A31.out).mono ?_); (case side1 => repeat (first | exact (Kd.R_reads' HO467.out).2.2 | (with_reducible refine Kd.C_alloc ?_ _) | (with_reducible refine Kd.C_drewN ?_ _) | (with_reducible refine Kd.C_drew ?_))); (case side2 => exact (Kd.R_reads' HO467.out).2.1); (case side3 => repeat (first | exact (Kd.R_reads' HO460.out).2.2 | (with_reducible refine Kd.C_alloc ?_ _) | (with_reducible refine Kd.C_drewN ?_ _) | (with_reducible refine Kd.C_drew ?_))); (case side4 => exact (Kd.R_reads' HO460.out).2.1); rintro e w' ⟨rfl, ⟨nd, rfl⟩⟩))
             go_ret
             exact ⟨by first | rfl | (simp [errW_none, errW_some] <;> rfl) | (simp [*, errW_none, errW_some] <;> rfl), by repeat (first | (with_reducible first | exact HB.out | apply below_alloc | apply pw_below_drewN | apply below_drew1) | exact HB.out)⟩
           ·replace c30 := Bool.eq_false_iff.mpr c30
            subst c30
            have H1 : (some false) = some r := by rw [if_neg (show ¬ (false = true) by decide)] at H; exact H
            clear H
            have H := H1
            clear H1
            obtain rfl := Option.some.inj H
            go_wp2_with (first | ((with_reducible refine gate_callee (f := 23) rfl ?_); refine goesL_ (some 53) rfl rfl Tryd.func23 (by kernel_rfl) rfl #[.string a1] rfl (by (try simp only [List.map_toArray, List.map_cons, List.map_nil]); first | done | rfl | (simp only [List.length_drop, List.length_take]; rfl)) ?_; (with_reducible refine (span_Parse.calls a1 t457 t458 _ A22.out).mono ?_); rintro e w45 ⟨v459, rfl, ho0, hb⟩; refine ⟨_, rfl, ?_⟩; have n0_ := Aside0.mk (Kd.R_lower ho0 (below_size (by repeat (first | (with_reducible first | exact HB.out | apply below_alloc | apply pw_below_drewN | apply below_drew1) | exact HB.out)))); have n1_ := Aside0.mk (below_step (by repeat (first | (with_reducible first | exact HB.out | apply below_alloc | apply pw_below_drewN | apply below_drew1) | exact HB.out)) hb); clear HB; have HO460 := n0_; have HB := n1_; clear n0_ n1_; (try clear hb); (try clear hb2); (try clear hk); (try clear hi); (try clear ho0); obtain ⟨Ao46, co46, eo46⟩ := Kd.R_slice HO460.out; subst eo46) | ((with_reducible refine gate_callee (f := 36) rfl ?_); refine goesL_ (some 66) rfl rfl Tryd.func36 (by kernel_rfl) rfl #[.slice Ao46 t457.length co46] rfl (by (try simp only [List.map_toArray, List.map_cons, List.map_nil]); first | done | rfl | (simp only [List.length_drop, List.length_take]; rfl)) ?_; (with_reducible refine (span_Print.calls kj10 _ _ t457 t462 t463 _ ?side1 ?side2 A24.out (by first | exact laid_below HL_.out (by repeat (first | (with_reducible first | exact HB.out | apply below_alloc | apply pw_below_drewN | apply below_drew1) | exact HB.out)) | exact laid_drawn HL_.out (by repeat (first | exact Drawn0.refl _ | apply Drawn0.step)))).mono ?_); (case side1 => repeat (first | exact (Kd.R_reads' HO460.out).2.2 | (with_reducible refine Kd.C_alloc ?_ _) | (with_reducible refine Kd.C_drewN ?_ _) | (with_reducible refine Kd.C_drew ?_))); (case side2 => exact (Kd.R_reads' HO460.out).2.1); rintro e w47 ⟨rfl, hb⟩; refine ⟨_, rfl, ?_⟩; have n0_ := Aside0.mk (Kd.R_below (by (with_reducible repeat (first | apply Kd.R_alloc | apply Kd.R_drewN | apply Kd.R_drew)); exact HO460.out) hb); have n1_ := Aside0.mk (below_step (by repeat (first | (with_reducible first | exact HB.out | apply below_alloc | apply pw_below_drewN | apply below_drew1) | exact HB.out)) hb); clear HO460; clear HB; have HO460 := n0_; have HB := n1_; clear n0_ n1_; (try clear hb); (try clear hb2); (try clear hk); (try clear hi)) | ((with_reducible refine gate_callee (f := 23) rfl ?_); refine goesL_ (some 71) rfl rfl Tryd.func23 (by kernel_rfl) rfl #[.string t462] rfl (by (try simp only [List.map_toArray, List.map_cons, List.map_nil]); first | done | rfl | (simp only [List.length_drop, List.length_take]; rfl)) ?_; (with_reducible refine (span_Parse.calls t462 t464 t465 _ A25.out).mono ?_); rintro e w48 ⟨v466, rfl, ho0, hb⟩; refine ⟨_, rfl, ?_⟩; have n0_ := Aside0.mk (Kd.R_elder' (by (with_reducible repeat (first | apply Kd.R_alloc | apply Kd.R_drewN | apply Kd.R_drew)); exact HO460.out) (Kd.R_base ho0) hb); have n1_ := Aside0.mk (Kd.R_lower (Kd.R_new' ho0 (Kd.R_lt (by (with_reducible repeat (first | apply Kd.R_alloc | apply Kd.R_drewN | apply Kd.R_drew)); exact HO460.out))) (below_size (by repeat (first | (with_reducible first | exact HB.out | apply below_alloc | apply pw_below_drewN | apply below_drew1) | exact HB.out)))); have n2_ := Aside0.mk (below_step (by repeat (first | (with_reducible first | exact HB.out | apply below_alloc | apply pw_below_drewN | apply below_drew1) | exact HB.out)) hb); clear HO460; clear HB; have HO460 := n0_; have HO467 := n1_; have HB := n2_; clear n0_ n1_ n2_; (try clear hb); (try clear hb2); (try clear hk); (try clear hi); (try clear ho0)) | (go_at_call 44; (with_reducible refine (postbaglaw4_sound.calls kj10 _ _ t457 false _ ?side1 ?side2 A29.out).mono ?_); (case side1 => repeat (first | exact (Kd.R_reads' HO460.out).2.2 | (with_reducible refine Kd.C_alloc ?_ _) | (with_reducible refine Kd.C_drewN ?_ _) | (with_reducible refine Kd.C_drew ?_))); (case side2 => exact (Kd.R_reads' HO460.out).2.1); rintro e w' ⟨rfl, ⟨nd, rfl⟩⟩))
            go_ret
            exact ⟨by first | rfl | (simp [errW_none, errW_some] <;> rfl) | (simp [*, errW_none, errW_some] <;> rfl), by repeat (first | (with_reducible first | exact HB.out | apply below_alloc | apply pw_below_drewN | apply below_drew1) | exact HB.out)⟩
          ·rw [if_neg c28] at H
           have c28b0 : decide ((t462.size : Int) ≤ (a1.size : Int)) = false := decide_eq_false c28
           have c28b1 : decide (t462.size ≤ a1.size) = false := decide_eq_false (fun h => c28 (Int.ofNat_le.mpr h))
           clear c28
           obtain rfl := Option.some.inj H
           go_wp2_with (first | ((with_reducible refine gate_callee (f := 23) rfl ?_); refine goesL_ (some 53) rfl rfl Tryd.func23 (by kernel_rfl) rfl #[.string a1] rfl (by (try simp only [List.map_toArray, List.map_cons, List.map_nil]); first | done | rfl | (simp only [List.length_drop, List.length_take]; rfl)) ?_; (with_reducible refine (span_Parse.calls a1 t457 t458 _ A22.out).mono ?_); rintro e w49 ⟨v459, rfl, ho0, hb⟩; refine ⟨_, rfl, ?_⟩; have n0_ := Aside0.mk (Kd.R_lower ho0 (below_size (by repeat (first | (with_reducible first | exact HB.out | apply below_alloc | apply pw_below_drewN | apply below_drew1) | exact HB.out)))); have n1_ := Aside0.mk (below_step (by repeat (first | (with_reducible first | exact HB.out | apply below_alloc | apply pw_below_drewN | apply below_drew1) | exact HB.out)) hb); clear HB; have HO460 := n0_; have HB := n1_; clear n0_ n1_; (try clear hb); (try clear hb2); (try clear hk); (try clear hi); (try clear ho0); obtain ⟨Ao50, co50, eo50⟩ := Kd.R_slice HO460.out; subst eo50) | ((with_reducible refine gate_callee (f := 36) rfl ?_); refine goesL_ (some 66) rfl rfl Tryd.func36 (by kernel_rfl) rfl #[.slice Ao50 t457.length co50] rfl (by (try simp only [List.map_toArray, List.map_cons, List.map_nil]); first | done | rfl | (simp only [List.length_drop, List.length_take]; rfl)) ?_; (with_reducible refine (span_Print.calls kj10 _ _ t457 t462 t463 _ ?side1 ?side2 A24.out (by first | exact laid_below HL_.out (by repeat (first | (with_reducible first | exact HB.out | apply below_alloc | apply pw_below_drewN | apply below_drew1) | exact HB.out)) | exact laid_drawn HL_.out (by repeat (first | exact Drawn0.refl _ | apply Drawn0.step)))).mono ?_); (case side1 => repeat (first | exact (Kd.R_reads' HO460.out).2.2 | (with_reducible refine Kd.C_alloc ?_ _) | (with_reducible refine Kd.C_drewN ?_ _) | (with_reducible refine Kd.C_drew ?_))); (case side2 => exact (Kd.R_reads' HO460.out).2.1); rintro e w51 ⟨rfl, hb⟩; refine ⟨_, rfl, ?_⟩; have n0_ := Aside0.mk (Kd.R_below (by (with_reducible repeat (first | apply Kd.R_alloc | apply Kd.R_drewN | apply Kd.R_drew)); exact HO460.out) hb); have n1_ := Aside0.mk (below_step (by repeat (first | (with_reducible first | exact HB.out | apply below_alloc | apply pw_below_drewN | apply below_drew1) | exact HB.out)) hb); clear HO460; clear HB; have HO460 := n0_; have HB := n1_; clear n0_ n1_; (try clear hb); (try clear hb2); (try clear hk); (try clear hi)) | ((with_reducible refine gate_callee (f := 23) rfl ?_); refine goesL_ (some 71) rfl rfl Tryd.func23 (by kernel_rfl) rfl #[.string t462] rfl (by (try simp only [List.map_toArray, List.map_cons, List.map_nil]); first | done | rfl | (simp only [List.length_drop, List.length_take]; rfl)) ?_; (with_reducible refine (span_Parse.calls t462 t464 t465 _ A25.out).mono ?_); rintro e w52 ⟨v466, rfl, ho0, hb⟩; refine ⟨_, rfl, ?_⟩; have n0_ := Aside0.mk (Kd.R_elder' (by (with_reducible repeat (first | apply Kd.R_alloc | apply Kd.R_drewN | apply Kd.R_drew)); exact HO460.out) (Kd.R_base ho0) hb); have n1_ := Aside0.mk (Kd.R_lower (Kd.R_new' ho0 (Kd.R_lt (by (with_reducible repeat (first | apply Kd.R_alloc | apply Kd.R_drewN | apply Kd.R_drew)); exact HO460.out))) (below_size (by repeat (first | (with_reducible first | exact HB.out | apply below_alloc | apply pw_below_drewN | apply below_drew1) | exact HB.out)))); have n2_ := Aside0.mk (below_step (by repeat (first | (with_reducible first | exact HB.out | apply below_alloc | apply pw_below_drewN | apply below_drew1) | exact HB.out)) hb); clear HO460; clear HB; have HO460 := n0_; have HO467 := n1_; have HB := n2_; clear n0_ n1_ n2_; (try clear hb); (try clear hb2); (try clear hk); (try clear hi); (try clear ho0)))
           go_ret
           exact ⟨by first | rfl | (simp [errW_none, errW_some] <;> rfl) | (simp [*, errW_none, errW_some] <;> rfl), by repeat (first | (with_reducible first | exact HB.out | apply below_alloc | apply pw_below_drewN | apply below_drew1) | exact HB.out)⟩
         ·rw [if_neg c27] at H
          have c27b0 : (t465 == 0) = false := beq_eq_false_iff_ne.mpr c27
          have c27b1 : (t465 != 0) = true := bne_iff_ne.mpr c27
          obtain rfl := Option.some.inj H
          go_wp2_with (first | ((with_reducible refine gate_callee (f := 23) rfl ?_); refine goesL_ (some 53) rfl rfl Tryd.func23 (by kernel_rfl) rfl #[.string a1] rfl (by (try simp only [List.map_toArray, List.map_cons, List.map_nil]); first | done | rfl | (simp only [List.length_drop, List.length_take]; rfl)) ?_; (with_reducible refine (span_Parse.calls a1 t457 t458 _ A22.out).mono ?_); rintro e w53 ⟨v459, rfl, ho0, hb⟩; refine ⟨_, rfl, ?_⟩; have n0_ := Aside0.mk (Kd.R_lower ho0 (below_size (by repeat (first | (with_reducible first | exact HB.out | apply below_alloc | apply pw_below_drewN | apply below_drew1) | exact HB.out)))); have n1_ := Aside0.mk (below_step (by repeat (first | (with_reducible first | exact HB.out | apply below_alloc | apply pw_below_drewN | apply below_drew1) | exact HB.out)) hb); clear HB; have HO460 := n0_; have HB := n1_; clear n0_ n1_; (try clear hb); (try clear hb2); (try clear hk); (try clear hi); (try clear ho0); obtain ⟨Ao54, co54, eo54⟩ := Kd.R_slice HO460.out; subst eo54) | ((with_reducible refine gate_callee (f := 36) rfl ?_); refine goesL_ (some 66) rfl rfl Tryd.func36 (by kernel_rfl) rfl #[.slice Ao54 t457.length co54] rfl (by (try simp only [List.map_toArray, List.map_cons, List.map_nil]); first | done | rfl | (simp only [List.length_drop, List.length_take]; rfl)) ?_; (with_reducible refine (span_Print.calls kj10 _ _ t457 t462 t463 _ ?side1 ?side2 A24.out (by first | exact laid_below HL_.out (by repeat (first | (with_reducible first | exact HB.out | apply below_alloc | apply pw_below_drewN | apply below_drew1) | exact HB.out)) | exact laid_drawn HL_.out (by repeat (first | exact Drawn0.refl _ | apply Drawn0.step)))).mono ?_); (case side1 => repeat (first | exact (Kd.R_reads' HO460.out).2.2 | (with_reducible refine Kd.C_alloc ?_ _) | (with_reducible refine Kd.C_drewN ?_ _) | (with_reducible refine Kd.C_drew ?_))); (case side2 => exact (Kd.R_reads' HO460.out).2.1); rintro e w55 ⟨rfl, hb⟩; refine ⟨_, rfl, ?_⟩; have n0_ := Aside0.mk (Kd.R_below (by (with_reducible repeat (first | apply Kd.R_alloc | apply Kd.R_drewN | apply Kd.R_drew)); exact HO460.out) hb); have n1_ := Aside0.mk (below_step (by repeat (first | (with_reducible first | exact HB.out | apply below_alloc | apply pw_below_drewN | apply below_drew1) | exact HB.out)) hb); clear HO460; clear HB; have HO460 := n0_; have HB := n1_; clear n0_ n1_; (try clear hb); (try clear hb2); (try clear hk); (try clear hi)) | ((with_reducible refine gate_callee (f := 23) rfl ?_); refine goesL_ (some 71) rfl rfl Tryd.func23 (by kernel_rfl) rfl #[.string t462] rfl (by (try simp only [List.map_toArray, List.map_cons, List.map_nil]); first | done | rfl | (simp only [List.length_drop, List.length_take]; rfl)) ?_; (with_reducible refine (span_Parse.calls t462 t464 t465 _ A25.out).mono ?_); rintro e w56 ⟨v466, rfl, ho0, hb⟩; refine ⟨_, rfl, ?_⟩; have n0_ := Aside0.mk (Kd.R_elder' (by (with_reducible repeat (first | apply Kd.R_alloc | apply Kd.R_drewN | apply Kd.R_drew)); exact HO460.out) (Kd.R_base ho0) hb); have n1_ := Aside0.mk (Kd.R_lower (Kd.R_new' ho0 (Kd.R_lt (by (with_reducible repeat (first | apply Kd.R_alloc | apply Kd.R_drewN | apply Kd.R_drew)); exact HO460.out))) (below_size (by repeat (first | (with_reducible first | exact HB.out | apply below_alloc | apply pw_below_drewN | apply below_drew1) | exact HB.out)))); have n2_ := Aside0.mk (below_step (by repeat (first | (with_reducible first | exact HB.out | apply below_alloc | apply pw_below_drewN | apply below_drew1) | exact HB.out)) hb); clear HO460; clear HB; have HO460 := n0_; have HO467 := n1_; have HB := n2_; clear n0_ n1_ n2_; (try clear hb); (try clear hb2); (try clear hk); (try clear hi); (try clear ho0)))
          go_ret
          exact ⟨by first | rfl | (simp [errW_none, errW_some] <;> rfl) | (simp [*, errW_none, errW_some] <;> rfl), by repeat (first | (with_reducible first | exact HB.out | apply below_alloc | apply pw_below_drewN | apply below_drew1) | exact HB.out)⟩
        ·rw [if_neg c26] at H
         have c26b0 : (t463 == 0) = false := beq_eq_false_iff_ne.mpr c26
         have c26b1 : (t463 != 0) = true := bne_iff_ne.mpr c26
         obtain rfl := Option.some.inj H
         go_wp2_with (first | ((with_reducible refine gate_callee (f := 23) rfl ?_); refine goesL_ (some 53) rfl rfl Tryd.func23 (by kernel_rfl) rfl #[.string a1] rfl (by (try simp only [List.map_toArray, List.map_cons, List.map_nil]); first | done | rfl | (simp only [List.length_drop, List.length_take]; rfl)) ?_; (with_reducible refine (span_Parse.calls a1 t457 t458 _ A22.out).mono ?_); rintro e w57 ⟨v459, rfl, ho0, hb⟩; refine ⟨_, rfl, ?_⟩; have n0_ := Aside0.mk (Kd.R_lower ho0 (below_size (by repeat (first | (with_reducible first | exact HB.out | apply below_alloc | apply pw_below_drewN | apply below_drew1) | exact HB.out)))); have n1_ := Aside0.mk (below_step (by repeat (first | (with_reducible first | exact HB.out | apply below_alloc | apply pw_below_drewN | apply below_drew1) | exact HB.out)) hb); clear HB; have HO460 := n0_; have HB := n1_; clear n0_ n1_; (try clear hb); (try clear hb2); (try clear hk); (try clear hi); (try clear ho0); obtain ⟨Ao58, co58, eo58⟩ := Kd.R_slice HO460.out; subst eo58) | ((with_reducible refine gate_callee (f := 36) rfl ?_); refine goesL_ (some 66) rfl rfl Tryd.func36 (by kernel_rfl) rfl #[.slice Ao58 t457.length co58] rfl (by (try simp only [List.map_toArray, List.map_cons, List.map_nil]); first | done | rfl | (simp only [List.length_drop, List.length_take]; rfl)) ?_; (with_reducible refine (span_Print.calls kj10 _ _ t457 t462 t463 _ ?side1 ?side2 A24.out (by first | exact laid_below HL_.out (by repeat (first | (with_reducible first | exact HB.out | apply below_alloc | apply pw_below_drewN | apply below_drew1) | exact HB.out)) | exact laid_drawn HL_.out (by repeat (first | exact Drawn0.refl _ | apply Drawn0.step)))).mono ?_); (case side1 => repeat (first | exact (Kd.R_reads' HO460.out).2.2 | (with_reducible refine Kd.C_alloc ?_ _) | (with_reducible refine Kd.C_drewN ?_ _) | (with_reducible refine Kd.C_drew ?_))); (case side2 => exact (Kd.R_reads' HO460.out).2.1); rintro e w59 ⟨rfl, hb⟩; refine ⟨_, rfl, ?_⟩; have n0_ := Aside0.mk (Kd.R_below (by (with_reducible repeat (first | apply Kd.R_alloc | apply Kd.R_drewN | apply Kd.R_drew)); exact HO460.out) hb); have n1_ := Aside0.mk (below_step (by repeat (first | (with_reducible first | exact HB.out | apply below_alloc | apply pw_below_drewN | apply below_drew1) | exact HB.out)) hb); clear HO460; clear HB; have HO460 := n0_; have HB := n1_; clear n0_ n1_; (try clear hb); (try clear hb2); (try clear hk); (try clear hi)) | ((with_reducible refine gate_callee (f := 23) rfl ?_); refine goesL_ (some 71) rfl rfl Tryd.func23 (by kernel_rfl) rfl #[.string t462] rfl (by (try simp only [List.map_toArray, List.map_cons, List.map_nil]); first | done | rfl | (simp only [List.length_drop, List.length_take]; rfl)) ?_; (with_reducible refine (span_Parse.calls t462 t464 t465 _ A25.out).mono ?_); rintro e w60 ⟨v466, rfl, ho0, hb⟩; refine ⟨_, rfl, ?_⟩; have n0_ := Aside0.mk (Kd.R_elder' (by (with_reducible repeat (first | apply Kd.R_alloc | apply Kd.R_drewN | apply Kd.R_drew)); exact HO460.out) (Kd.R_base ho0) hb); have n1_ := Aside0.mk (Kd.R_lower (Kd.R_new' ho0 (Kd.R_lt (by (with_reducible repeat (first | apply Kd.R_alloc | apply Kd.R_drewN | apply Kd.R_drew)); exact HO460.out))) (below_size (by repeat (first | (with_reducible first | exact HB.out | apply below_alloc | apply pw_below_drewN | apply below_drew1) | exact HB.out)))); have n2_ := Aside0.mk (below_step (by repeat (first | (with_reducible first | exact HB.out | apply below_alloc | apply pw_below_drewN | apply below_drew1) | exact HB.out)) hb); clear HO460; clear HB; have HO460 := n0_; have HO467 := n1_; have HB := n2_; clear n0_ n1_ n2_; (try clear hb); (try clear hb2); (try clear hk); (try clear hi); (try clear ho0)))
         go_ret
         exact ⟨by first | rfl | (simp [errW_none, errW_some] <;> rfl) | (simp [*, errW_none, errW_some] <;> rfl), by repeat (first | (with_reducible first | exact HB.out | apply below_alloc | apply pw_below_drewN | apply below_drew1) | exact HB.out)⟩
       ·rw [if_neg c23] at H
        have c23b0 : (t458 == 0) = false := beq_eq_false_iff_ne.mpr c23
        have c23b1 : (t458 != 0) = true := bne_iff_ne.mpr c23
        by_cases c61 : (t457.length : Int) = 0
        ·rw [if_pos c61] at H
         have c61b0 : ((t457.length : Int) == 0) = true := beq_iff_eq.mpr c61
         have c61b1 : ((t457.length : Int) != 0) = false := bne_eq_false_iff_eq.mpr c61
         clear c61
         replace H := Option.bind_eq_some_iff.mp H
         obtain ⟨t461, A620, H⟩ := H
         replace H : (some t461) = some r := H
         have A62 := Aside0.mk A620
         clear A620
         obtain rfl := Option.some.inj H
         go_wp2_with (first | ((with_reducible refine gate_callee (f := 23) rfl ?_); refine goesL_ (some 53) rfl rfl Tryd.func23 (by kernel_rfl) rfl #[.string a1] rfl (by (try simp only [List.map_toArray, List.map_cons, List.map_nil]); first | done | rfl | (simp only [List.length_drop, List.length_take]; rfl)) ?_; (with_reducible refine (span_Parse.calls a1 t457 t458 _ A22.out).mono ?_); rintro e w63 ⟨v459, rfl, ho0, hb⟩; refine ⟨_, rfl, ?_⟩; have n0_ := Aside0.mk (Kd.R_lower ho0 (below_size (by repeat (first | (with_reducible first | exact HB.out | apply below_alloc | apply pw_below_drewN | apply below_drew1) | exact HB.out)))); have n1_ := Aside0.mk (below_step (by repeat (first | (with_reducible first | exact HB.out | apply below_alloc | apply pw_below_drewN | apply below_drew1) | exact HB.out)) hb); clear HB; have HO460 := n0_; have HB := n1_; clear n0_ n1_; (try clear hb); (try clear hb2); (try clear hk); (try clear hi); (try clear ho0); obtain ⟨Ao64, co64, eo64⟩ := Kd.R_slice HO460.out; subst eo64) | (go_at_call 20; (with_reducible refine (postbaglaw4_known.calls kj10  t461 _ A62.out (by first | exact laid_below HL_.out (by repeat (first | (with_reducible first | exact HB.out | apply below_alloc | apply pw_below_drewN | apply below_drew1) | exact HB.out)) | exact laid_drawn HL_.out (by repeat (first | exact Drawn0.refl _ | apply Drawn0.step)))).mono ?_); rintro e w65 ⟨rfl, hb⟩; have n0_ := Aside0.mk (Kd.R_below (by (with_reducible repeat (first | apply Kd.R_alloc | apply Kd.R_drewN | apply Kd.R_drew)); exact HO460.out) hb); have n1_ := Aside0.mk (below_step (by repeat (first | (with_reducible first | exact HB.out | apply below_alloc | apply pw_below_drewN | apply below_drew1) | exact HB.out)) hb); clear HO460; clear HB; have HO460 := n0_; have HB := n1_; clear n0_ n1_; (try clear hb); (try clear hb2); (try clear hk); (try clear hi)))
         go_ret
         exact ⟨by first | rfl | (simp [errW_none, errW_some] <;> rfl) | (simp [*, errW_none, errW_some] <;> rfl), by repeat (first | (with_reducible first | exact HB.out | apply below_alloc | apply pw_below_drewN | apply below_drew1) | exact HB.out)⟩
        ·rw [if_neg c61] at H
         have c61b0 : ((t457.length : Int) == 0) = false := beq_eq_false_iff_ne.mpr c61
         have c61b1 : ((t457.length : Int) != 0) = true := bne_iff_ne.mpr c61
         have c61b2 : ¬ (t457 = []) := fun h_ => c61 (by rw [h_]; rfl)
         obtain rfl := Option.some.inj H
         go_wp2_with (first | ((with_reducible refine gate_callee (f := 23) rfl ?_); refine goesL_ (some 53) rfl rfl Tryd.func23 (by kernel_rfl) rfl #[.string a1] rfl (by (try simp only [List.map_toArray, List.map_cons, List.map_nil]); first | done | rfl | (simp only [List.length_drop, List.length_take]; rfl)) ?_; (with_reducible refine (span_Parse.calls a1 t457 t458 _ A22.out).mono ?_); rintro e w66 ⟨v459, rfl, ho0, hb⟩; refine ⟨_, rfl, ?_⟩; have n0_ := Aside0.mk (Kd.R_lower ho0 (below_size (by repeat (first | (with_reducible first | exact HB.out | apply below_alloc | apply pw_below_drewN | apply below_drew1) | exact HB.out)))); have n1_ := Aside0.mk (below_step (by repeat (first | (with_reducible first | exact HB.out | apply below_alloc | apply pw_below_drewN | apply below_drew1) | exact HB.out)) hb); clear HB; have HO460 := n0_; have HB := n1_; clear n0_ n1_; (try clear hb); (try clear hb2); (try clear hk); (try clear hi); (try clear ho0); obtain ⟨Ao67, co67, eo67⟩ := Kd.R_slice HO460.out; subst eo67))
         go_ret
         exact ⟨by first | rfl | (simp [errW_none, errW_some] <;> rfl) | (simp [*, errW_none, errW_some] <;> rfl), by repeat (first | (with_reducible first | exact HB.out | apply below_alloc | apply pw_below_drewN | apply below_drew1) | exact HB.out)⟩
end Go.Proofs.YtidcchopmbodkaaDoor.Sp
end
section
namespace Go.Proofs.YtidcchopmbodkaaDoor.Sp
open Go.RowKit Go.Proofs.YtidcchopmbodkaaDoorW.PrintWords Go.Proofs.YtidcchopmbodkaaDoorW.PrintLast Go.Proofs.YtidcchopmbodkaaDoorW.PrintMore
attribute [local go_sem] max2_int min2_int max_two min_two max_three min_three max_four min_four   -- for this text's walks alone
set_option linter.unusedVariables false
set_option linter.unusedSimpArgs false
end Go.Proofs.YtidcchopmbodkaaDoor.Sp
end
section
namespace Go.Proofs.YtidcchopmbodkaaDoor.Sp
open Go.RowKit Go.Proofs.YtidcchopmbodkaaDoorW.PrintWords Go.Proofs.YtidcchopmbodkaaDoorW.PrintLast Go.Proofs.YtidcchopmbodkaaDoorW.PrintMore
attribute [local go_sem] max2_int min2_int max_two min_two max_three min_three max_four min_four   -- for this text's walks alone
set_option linter.unusedVariables false
set_option linter.unusedSimpArgs false
end Go.Proofs.YtidcchopmbodkaaDoor.Sp
end
section
namespace Go.Proofs.YtidcchopmbodkaaDoor.Sp
open Go.RowKit Go.Proofs.YtidcchopmbodkaaDoorW.PrintWords Go.Proofs.YtidcchopmbodkaaDoorW.PrintLast Go.Proofs.YtidcchopmbodkaaDoorW.PrintMore
open Canon
theorem w64n (i : Nat) (h : i < 4611686018427387904) : wrap64 ((i : Int) + 1) = ((i + 1 : Nat) : Int) := by unfold wrap64; omega
theorem rd28_at (l : List S28) (i : Nat) (h : i < l.length) : rd_T28 l (i : Int) = l[i] := by
  unfold rd_T28
  rw [List.getD_eq_getElem?_getD, show ((i : Int)).toNat = i from by omega, List.getElem?_eq_getElem h]
  rfl
theorem mn_eq (a b : Int) : mn a b = min a b := by unfold mn; split <;> omega
theorem mx_eq (a b : Int) : mx a b = max a b := by unfold mx; split <;> omega
theorem same_l0 (a b : List S28) (hab : a.length = b.length) (hl : a.length ≤ 8000000000000) (d : Nat) : ∀ (i k : Nat), i + d = a.length → d < k →
    postbaglaw4_same.l0 k a b (i : Int) = some (decide ((a.drop i).map pr = (b.drop i).map pr)) := by
  induction d with
  | zero =>
    intro i k hi hk
    obtain ⟨k, rfl⟩ : ∃ j, k = j + 1 := ⟨k - 1, by omega⟩
    simp only [postbaglaw4_same.l0]
    rw [if_neg (by omega), List.drop_of_length_le (by omega), List.drop_of_length_le (by omega)]
    simp
  | succ d ih =>
    intro i k hi hk
    obtain ⟨k, rfl⟩ : ∃ j, k = j + 1 := ⟨k - 1, by omega⟩
    simp only [postbaglaw4_same.l0]
    rw [if_pos (by omega), if_pos (by omega), if_pos (by omega), rd28_at a i (by omega), rd28_at b i (by omega), w64n i (by omega), List.drop_eq_getElem_cons (show i < a.length by omega), List.drop_eq_getElem_cons (show i < b.length by omega)]
    generalize a[i] = x
    generalize b[i] = y
    by_cases h : pr x = pr y
    · have h1 : x.f0 = y.f0 := congrArg Prod.fst h
      have h2 : x.f1 = y.f1 := congrArg Prod.snd h
      rw [if_neg (by simp [h1, h2]), ih (i + 1) k (by omega) (by omega)]
      simp [h]
    · rw [if_pos, decide_eq_false]
      · intro e
        rw [List.map_cons, List.map_cons] at e
        exact h (List.cons.inj e).1
      · by_cases h1 : x.f0 = y.f0
        · by_cases h2 : x.f1 = y.f1
          · exact absurd (Prod.ext h1 h2) h
          · simp [h2]
        · simp [h1]
theorem same_f (a b : List S28) (hl : a.length ≤ 8000000000000) (k : Nat) (hk : a.length < k) : postbaglaw4_same.f k a b = some (decide (a.map pr = b.map pr)) := by
  unfold postbaglaw4_same.f
  by_cases h : a.length = b.length
  · rw [if_pos (by omega)]
    exact same_l0 a b h hl a.length 0 k (by omega) hk
  · rw [if_neg (by omega), decide_eq_false]
    intro e
    have := congrArg List.length e
    simp at this
    exact h this
end Go.Proofs.YtidcchopmbodkaaDoor.Sp
end
section
namespace Go.Proofs.YtidcchopmbodkaaDoor.Sp
open Go.RowKit Go.Proofs.YtidcchopmbodkaaDoorW.PrintWords Go.Proofs.YtidcchopmbodkaaDoorW.PrintLast Go.Proofs.YtidcchopmbodkaaDoorW.PrintMore
open Canon
structure Form (A : List S28) : Prop where
  rises : Rises (A.map pr)
  ends : ∀ x ∈ A, 1 ≤ x.f0 ∧ x.f1 ≤ 4294967295
theorem Form.le {A : List S28} (h : Form A) (x : S28) (hx : x ∈ A) : x.f0 ≤ x.f1 := h.rises.1 (pr x) (List.mem_map.2 ⟨x, hx, rfl⟩)
def upto (a : Int) (k : Nat) : List Int := (List.range k).map fun i : Nat => a + (i : Int)
end Go.Proofs.YtidcchopmbodkaaDoor.Sp
end
section
namespace Go.Proofs.YtidcchopmbodkaaDoor.Sp
open Go.RowKit Go.Proofs.YtidcchopmbodkaaDoorW.PrintWords Go.Proofs.YtidcchopmbodkaaDoorW.PrintLast Go.Proofs.YtidcchopmbodkaaDoorW.PrintMore
open Canon
structure JS where
  p : List S28
  st : Bool
  lo : Int
  hi : Int
def j0 : JS := ⟨[], false, 0, 0⟩
structure JOk (s : JS) : Prop where
  ok : ∀ x ∈ s.p, 1 ≤ x.f0 ∧ x.f0 ≤ x.f1 ∧ x.f1 ≤ 4294967295
  lo0 : 0 ≤ s.lo
  le : s.lo ≤ s.hi
  hi1 : s.hi ≤ 4294967295
  zero : s.lo = 0 → s.hi = 0
  off : s.st = false → s.hi = 0
theorem rng_iff (x : S28) : rngB x = true ↔ 0 ≤ x.f0 ∧ 0 ≤ x.f1 ∧ x.f0 ≤ 4294967295 ∧ x.f1 ≤ 4294967295 := by
  unfold rngB
  simp only [Bool.and_eq_true, decide_eq_true_eq]
  omega
end Go.Proofs.YtidcchopmbodkaaDoor.Sp
end
section
namespace Go.Proofs.YtidcchopmbodkaaDoor.Sp
open Go.RowKit Go.Proofs.YtidcchopmbodkaaDoorW.PrintWords Go.Proofs.YtidcchopmbodkaaDoorW.PrintLast Go.Proofs.YtidcchopmbodkaaDoorW.PrintMore
open Canon
theorem rng_f (x : S28) : span_isRange.f x.f0 x.f1 = some (rngB x) := by
  unfold span_isRange.f rngB
  rw [mn_eq, mx_eq]
  by_cases h : min x.f0 x.f1 ≥ 0
  · rw [if_pos h, decide_eq_true (show 0 ≤ min x.f0 x.f1 from h), Bool.true_and]
  · rw [if_neg h, decide_eq_false (show ¬ 0 ≤ min x.f0 x.f1 from h), Bool.false_and]
end Go.Proofs.YtidcchopmbodkaaDoor.Sp
end
section
namespace Go.Proofs.YtidcchopmbodkaaDoor.Sp
open Go.RowKit Go.Proofs.YtidcchopmbodkaaDoorW.PrintWords Go.Proofs.YtidcchopmbodkaaDoorW.PrintLast Go.Proofs.YtidcchopmbodkaaDoorW.PrintMore
open Par Canon
def wordL (n : Int) : List UInt8 := if n = 0 then [42] else Lib.itoa n
def pieceT (x : S28) : List UInt8 := if x.f0 = x.f1 then wordL x.f0 else wordL x.f0 ++ 58 :: wordL x.f1
def piecesB (l : List S28) : List ByteArray := l.map fun x => ⟨(pieceT x).toArray⟩
def printA (l : List S28) : ByteArray × Int := if 64 < l.length then (⟨#[]⟩, 41) else if l = [] ∨ l.all rngB = false then (⟨#[]⟩, 40) else (joinB (piecesB l) ⟨#[44]⟩, 0)
theorem dig_len (n : Nat) (h : n ≤ 4294967295) : (Lib.decDigits n).length ≤ 10 := by
  rw [Lib.decDigits_length]
  by_cases h0 : Lib.nDigits n ≤ 10
  · exact h0
  · exfalso
    have : 10 ^ (Lib.nDigits n - 1) ≤ n := by
      have key : ∀ u : Nat, u ≠ 0 → 10 ^ (Lib.nDigits u - 1) ≤ u := by
        intro u
        induction u using Nat.strongRecOn with
        | _ u ih =>
          intro hu
          by_cases hs : u < 10
          · rw [Lib.nDigits_small hs]; simp; omega
          · rw [Lib.nDigits_big hs]
            have i1 := ih (u / 10) (by omega) (by omega)
            have i2 := Lib.nDigits_pos (u / 10)
            rw [show Lib.nDigits (u / 10) + 1 - 1 = (Lib.nDigits (u / 10) - 1) + 1 from by omega, Nat.pow_succ]
            omega
      exact key n (by rintro rfl; rw [Lib.nDigits_small (by omega)] at h0; omega)
    have h1 : 10 ^ 10 ≤ 10 ^ (Lib.nDigits n - 1) := Nat.pow_le_pow_right (by omega) (by omega)
    omega
theorem dig_dig (n : Nat) : (Lib.decDigits n).all dig = true := by
  induction n using Nat.strongRecOn with
  | _ n ih =>
    rw [Lib.decDigits]
    by_cases h : n < 10
    · rw [dif_pos h]
      simp only [List.all_cons, List.all_nil, Bool.and_true, dig_iff]
      rw [UInt8.toNat_ofNat']; omega
    · rw [dif_neg h, List.all_append, ih (n / 10) (by omega)]
      simp only [List.all_cons, List.all_nil, Bool.and_true, Bool.true_and, dig_iff]
      rw [UInt8.toNat_ofNat']; omega
theorem valF_append (n : Nat) (a b : List UInt8) : valF n (a ++ b) = valF (valF n a) b := by
  unfold valF
  rw [List.foldl_append]
theorem dig_val (n : Nat) : val (Lib.decDigits n) = n := by
  induction n using Nat.strongRecOn with
  | _ n ih =>
    rw [Lib.decDigits]
    by_cases h : n < 10
    · rw [dif_pos h]
      show 10 * 0 + ((UInt8.ofNat (48 + n)).toNat - 48) = n
      rw [UInt8.toNat_ofNat']; omega
    · rw [dif_neg h]
      unfold val
      rw [valF_append]
      have := ih (n / 10) (by omega)
      unfold val at this
      rw [this]
      show 10 * (n / 10) + ((UInt8.ofNat (48 + n % 10)).toNat - 48) = n
      rw [UInt8.toNat_ofNat']; omega
theorem dig_ne (n : Nat) : Lib.decDigits n ≠ [] := by
  intro h
  have := congrArg List.length h
  rw [Lib.decDigits_length] at this
  have := Lib.nDigits_pos n
  simp at *
  omega
theorem dig_head (n : Nat) (h : n ≠ 0) : (Lib.decDigits n).head? ≠ some 48 := by
  induction n using Nat.strongRecOn with
  | _ n ih =>
    rw [Lib.decDigits]
    by_cases hs : n < 10
    · rw [dif_pos hs]
      intro e
      have e2 : UInt8.ofNat (48 + n) = 48 := by simpa using e
      have := congrArg UInt8.toNat e2
      rw [UInt8.toNat_ofNat'] at this
      have e3 : (48 : UInt8).toNat = 48 := rfl
      omega
    · rw [dif_neg hs]
      have := ih (n / 10) (by omega) (by omega)
      have hne := dig_ne (n / 10)
      cases hd : Lib.decDigits (n / 10) with
      | nil => exact absurd hd hne
      | cons c r => rw [hd] at this; simpa using this
theorem word_dig (n : Int) (h0 : 0 < n) : wordL n = Lib.decDigits n.toNat := by
  unfold wordL Lib.itoa
  rw [if_neg (by omega), if_neg (by omega)]
theorem end_word (n : Int) (h0 : 0 ≤ n) (h1 : n ≤ 4294967295) : endP (wordL n) = some n.toNat := by
  by_cases h : n = 0
  · subst h; rfl
  · rw [word_dig n (by omega)]
    have hd := dig_dig n.toNat
    have hv := dig_val n.toNat
    unfold endP
    rw [if_neg, if_neg (dig_ne _), if_neg (dig_head _ (by omega)), if_neg (by have := dig_len n.toNat (by omega); omega), if_pos hd, hv, if_pos (by omega)]
    intro e
    rw [e] at hd
    simp [dig] at hd
theorem word_len (n : Int) (h0 : 0 ≤ n) (h1 : n ≤ 4294967295) : (wordL n).length ≤ 10 := by
  by_cases h : n = 0
  · subst h; simp [wordL]
  · rw [word_dig n (by omega)]; exact dig_len _ (by omega)
theorem word_no (n : Int) (h0 : 0 ≤ n) : ∀ c ∈ wordL n, c ≠ 44 ∧ c ≠ 58 := by
  intro c hc
  by_cases h : n = 0
  · subst h
    have : c = 42 := by simpa [wordL] using hc
    subst this; decide
  · rw [word_dig n (by omega)] at hc
    have := List.all_eq_true.1 (dig_dig n.toNat) c hc
    rw [dig_iff] at this
    constructor <;> (rintro rfl; simp at this)
theorem word_least (t : List UInt8) (n : Nat) (h : endP t = some n) : (wordL n).length ≤ t.length := by
  unfold endP at h
  split at h
  · rename_i h1; subst h1
    injection h with h; subst h; exact Nat.le_refl _
  · split at h
    · cases h
    · rename_i h1 h2
      split at h
      · cases h
      · split at h
        · cases h
        · split at h
          · split at h
            · rename_i h3 h4 h5 h6
              injection h with h
              have hlt : val t < 10 ^ t.length := by
                have key : ∀ (t : List UInt8) (m k : Nat), t.all dig = true → m < 10 ^ k → valF m t < 10 ^ (k + t.length) := by
                  intro t
                  induction t with
                  | nil => intro m k _ hm; exact hm
                  | cons c r ih =>
                    intro m k ha hm
                    simp only [List.all_cons, Bool.and_eq_true] at ha
                    have hc := (dig_iff c).1 ha.1
                    rw [List.length_cons, show k + (r.length + 1) = (k + 1) + r.length from by omega]
                    refine ih _ _ ha.2 ?_
                    have hp := hm
                    rw [Nat.pow_succ]; have := hc.1; have := hc.2; show 10 * m + (c.toNat - 48) < _; omega
                have := key t 0 0 h5 (by decide)
                rw [Nat.zero_add] at this
                exact this
              have hn : n ≠ 0 := by
                intro e
                rw [e] at h
                cases t with
                | nil => exact h2 rfl
                | cons c r =>
                  simp only [List.all_cons, Bool.and_eq_true] at h5
                  have hc := (dig_iff c).1 h5.1
                  have hc0 : c.toNat ≠ 48 := fun e => h3 (by show some c = some 48; rw [(byte_eq c 48 (by omega)).2 e]; rfl)
                  have := valF_le (10 * 0 + (c.toNat - 48)) r
                  have e2 : val (c :: r) = valF (10 * 0 + (c.toNat - 48)) r := rfl
                  omega
              rw [word_dig _ (by omega), show ((n : Int)).toNat = n from by omega, Lib.decDigits_length]
              by_cases hc : Lib.nDigits n ≤ t.length
              · exact hc
              · exfalso
                have key : ∀ u : Nat, u ≠ 0 → 10 ^ (Lib.nDigits u - 1) ≤ u := by
                  intro u
                  induction u using Nat.strongRecOn with
                  | _ u ih =>
                    intro hu
                    by_cases hs : u < 10
                    · rw [Lib.nDigits_small hs]; simp; omega
                    · rw [Lib.nDigits_big hs]
                      have i1 := ih (u / 10) (by omega) (by omega)
                      have i2 := Lib.nDigits_pos (u / 10)
                      rw [show Lib.nDigits (u / 10) + 1 - 1 = (Lib.nDigits (u / 10) - 1) + 1 from by omega, Nat.pow_succ]
                      omega
                have k1 := key n hn
                have k2 : 10 ^ t.length ≤ 10 ^ (Lib.nDigits n - 1) := Nat.pow_le_pow_right (by omega) (by omega)
                omega
            · cases h
          · cases h
theorem cut_at (c : UInt8) (t r : List UInt8) (h : c ∉ t) : cutB c (t ++ c :: r) = (t, r, true) := by
  induction t with
  | nil => simp [cutB]
  | cons d t ih =>
    have hd : d ≠ c := fun e => h (by simp [e])
    have ih := ih fun hc => h (by simp [hc])
    unfold cutB at ih ⊢
    injection ih with i1 i2
    injection i2 with i2 i3
    have hb : (d != c) = true := by simp [hd]
    simp only [List.cons_append, List.takeWhile_cons, List.dropWhile_cons, hb, if_true, i1, i2]
    simp
theorem cut_no (c : UInt8) (t : List UInt8) (h : c ∉ t) : cutB c t = (t, [], false) := by
  rcases cut_is c t with ⟨h1, h2, h3, h4⟩ | ⟨h1, h2, h3⟩
  · exact Prod.ext h2 (Prod.ext h3 h1)
  · exact absurd (by rw [h2]; simp) h
theorem one_piece (x : S28) (h : rngB x = true) : oneP (pieceT x) = some (pr x) := by
  rw [rng_iff] at h
  have e0 := end_word x.f0 (by omega) (by omega)
  have e1 := end_word x.f1 (by omega) (by omega)
  have n0 : (58 : UInt8) ∉ wordL x.f0 := fun hc => (word_no x.f0 (by omega) _ hc).2 rfl
  have n1 : (58 : UInt8) ∉ wordL x.f1 := fun hc => (word_no x.f1 (by omega) _ hc).2 rfl
  unfold oneP pieceT
  by_cases he : x.f0 = x.f1
  · rw [if_pos he, cut_no _ _ n0]
    show (endP (wordL x.f0)).bind _ = _
    rw [e0]
    show some (((x.f0.toNat : Nat) : Int), ((x.f0.toNat : Nat) : Int)) = some (x.f0, x.f1)
    rw [← he]
    congr 2 <;> omega
  · rw [if_neg he, cut_at _ _ _ n0]
    show (endP (wordL x.f0)).bind _ = _
    rw [e0]
    rw [Option.bind_some, if_neg (by simp)]
    show (endP (cutB 58 (wordL x.f1)).1).bind (fun b => if (cutB 58 (wordL x.f1)).2.2 = false then some ((x.f0.toNat : Int), (b : Int)) else none) = _
    rw [cut_no _ _ n1]
    show (endP (wordL x.f1)).bind _ = _
    rw [e1]
    show some (((x.f0.toNat : Nat) : Int), ((x.f1.toNat : Nat) : Int)) = some (x.f0, x.f1)
    congr 2 <;> omega
theorem piece_no (x : S28) (h : rngB x = true) : (44 : UInt8) ∉ pieceT x := by
  rw [rng_iff] at h
  intro hc
  unfold pieceT at hc
  split at hc
  · exact (word_no x.f0 (by omega) _ hc).1 rfl
  · rcases List.mem_append.1 hc with hc | hc
    · exact (word_no x.f0 (by omega) _ hc).1 rfl
    · rcases List.mem_cons.1 hc with hc | hc
      · exact absurd hc (by decide)
      · exact (word_no x.f1 (by omega) _ hc).1 rfl
theorem piece_len (x : S28) (h : rngB x = true) : (pieceT x).length ≤ 21 := by
  rw [rng_iff] at h
  have e0 := word_len x.f0 (by omega) (by omega)
  have e1 := word_len x.f1 (by omega) (by omega)
  unfold pieceT
  split
  · omega
  · rw [List.length_append, List.length_cons]; omega
def joinT (l : List S28) : List UInt8 := Lib.join (l.map pieceT) [44]
theorem joinT_one (x : S28) : joinT [x] = pieceT x := by unfold joinT; exact Lib.join_one _ _
theorem joinT_cons (x y : S28) (l : List S28) : joinT (x :: y :: l) = pieceT x ++ 44 :: joinT (y :: l) := by
  unfold joinT Lib.join
  simp [List.intercalate]
theorem join_len (l : List S28) (h : l.all rngB = true) : (joinT l).length ≤ 22 * l.length := by
  induction l with
  | nil => simp [joinT, Lib.join_nil]
  | cons x l ih =>
    simp only [List.all_cons, Bool.and_eq_true] at h
    have := piece_len x h.1
    cases l with
    | nil => rw [joinT_one]; simp; omega
    | cons y l =>
      have := ih h.2
      rw [joinT_cons, List.length_append, List.length_cons, List.length_cons]
      omega
theorem many_join (l : List S28) (hn : l ≠ []) (h : l.all rngB = true) : ∀ k, (joinT l).length < k → manyP k (joinT l) = some (l.map pr) := by
  induction l with
  | nil => exact absurd rfl hn
  | cons x l ih =>
    simp only [List.all_cons, Bool.and_eq_true] at h
    intro k hk
    obtain ⟨k, rfl⟩ : ∃ j, k = j + 1 := ⟨k - 1, by omega⟩
    have h1 := one_piece x h.1
    have h2 := piece_no x h.1
    cases l with
    | nil =>
      rw [joinT_one, manyP_succ, cut_no _ _ h2]
      show (oneP (pieceT x)).bind _ = _
      rw [h1]
      rfl
    | cons y l =>
      rw [joinT_cons] at hk ⊢
      rw [List.length_append, List.length_cons] at hk
      rw [manyP_succ, cut_at _ _ _ h2]
      show (oneP (pieceT x)).bind _ = _
      rw [h1]
      show (manyP k (joinT (y :: l))).map _ = _
      rw [ih (by simp) h.2 k (by omega)]
      rfl
theorem many_least : ∀ (k : Nat) (u : List UInt8) (l : List Rg), manyP k u = some l → (joinT (l.map un)).length ≤ u.length ∧ l ≠ [] ∧ (l.map un).all rngB = true := by
  have one : ∀ (p : List UInt8) (r : Rg), oneP p = some r → (pieceT (un r)).length ≤ p.length ∧ rngB (un r) = true := by
    have le : ∀ (t : List UInt8) (n : Nat), endP t = some n → n ≤ 4294967295 := by
      intro t n h
      unfold endP at h
      split at h
      · injection h with h; omega
      · split at h
        · cases h
        · split at h
          · cases h
          · split at h
            · cases h
            · split at h
              · split at h
                · injection h with h; omega
                · cases h
              · cases h
    intro p r h
    unfold oneP at h
    rcases cut_is 58 p with ⟨h1, h2, h3, h4⟩ | ⟨h1, h2, h3⟩
    · rw [h1, h2] at h
      cases he : endP p with
      | none => rw [he] at h; cases h
      | some a =>
        rw [he] at h
        injection h with h
        subst h
        have := word_least p a he
        have := le p a he
        refine ⟨?_, (rng_iff _).2 ⟨?_, ?_, ?_, ?_⟩⟩
        · unfold pieceT
          rw [if_pos (show (un ((a : Int), (a : Int))).f0 = (un ((a : Int), (a : Int))).f1 from rfl)]
          show (wordL (a : Int)).length ≤ _
          omega
        all_goals (show _ ≤ _; first | exact Int.natCast_nonneg _ | (show (a : Int) ≤ _; omega))
    · generalize (cutB 58 p).1 = t at *
      generalize (cutB 58 p).2.1 = b at *
      rw [h1] at h
      cases he : endP t with
      | none => rw [he] at h; cases h
      | some a =>
        rw [he] at h
        rw [Option.bind_some, if_neg (by simp)] at h
        rcases cut_is 58 b with ⟨g1, g2, g3, g4⟩ | ⟨g1, g2, g3⟩
        · rw [g1, g2] at h
          cases hf : endP b with
          | none => rw [hf] at h; cases h
          | some y =>
            rw [hf] at h
            injection h with h
            subst h
            have i1 := word_least t a he
            have i2 := word_least b y hf
            have := le t a he
            have := le b y hf
            refine ⟨?_, (rng_iff _).2 ⟨?_, ?_, ?_, ?_⟩⟩
            · rw [h2, List.length_append, List.length_cons]
              unfold pieceT
              split
              · show (wordL (a : Int)).length ≤ _
                omega
              · rw [List.length_append, List.length_cons]
                show (wordL (a : Int)).length + ((wordL (y : Int)).length + 1) ≤ _
                omega
            all_goals (show _ ≤ _; first | exact Int.natCast_nonneg _ | (show (a : Int) ≤ _; omega) | (show (y : Int) ≤ _; omega))
        · rw [g1] at h
          cases hf : endP (cutB 58 b).1 with
          | none => rw [hf] at h; cases h
          | some y => rw [hf] at h; cases h
  intro k
  induction k with
  | zero => intro u l h; cases h
  | succ k ih =>
    intro u l h
    rw [manyP_succ] at h
    cases ho : oneP (cutB 44 u).1 with
    | none => rw [ho] at h; cases h
    | some r =>
      rw [ho] at h
      change (if (cutB 44 u).2.2 = true then (manyP k (cutB 44 u).2.1).map (r :: ·) else some [r]) = some l at h
      obtain ⟨o1, o2⟩ := one _ _ ho
      rcases cut_is 44 u with ⟨h1, h2, h3, h4⟩ | ⟨h1, h2, h3⟩
      · rw [h1, if_neg (by simp)] at h
        injection h with h
        subst h
        rw [h2] at o1
        refine ⟨?_, by simp, by simp [o2]⟩
        show (joinT [un r]).length ≤ _
        rw [joinT_one]; exact o1
      · rw [h1, if_pos rfl] at h
        cases hm : manyP k (cutB 44 u).2.1 with
        | none => rw [hm] at h; cases h
        | some m =>
          rw [hm] at h
          injection h with h
          change r :: m = l at h
          subst h
          obtain ⟨i1, i2, i3⟩ := ih _ _ hm
          have hu := congrArg List.length h2
          rw [List.length_append, List.length_cons] at hu
          refine ⟨?_, by simp, by simp only [List.map_cons, List.all_cons, o2, Bool.true_and]; exact i3⟩
          cases m with
          | nil => exact absurd rfl i2
          | cons s m =>
            show (joinT (un r :: un s :: m.map un)).length ≤ _
            rw [joinT_cons, List.length_append, List.length_cons]
            change (joinT (un s :: m.map un)).length ≤ _ at i1
            omega
theorem word_f (n : Int) (h0 : 0 ≤ n) (h1 : n ≤ 4294967295) : span_word.f n = some ⟨(wordL n).toArray⟩ := by
  unfold span_word.f wordL
  by_cases h : n = 0
  · rw [if_pos h, if_pos h]
  · rw [if_neg h, if_neg h, if_pos (by omega)]
theorem pieceB_one (x : S28) (h : x.f0 = x.f1) : (⟨(wordL x.f0).toArray⟩ : ByteArray) = ⟨(pieceT x).toArray⟩ := by unfold pieceT; rw [if_pos h]
theorem pieceB_two (x : S28) (h : ¬ x.f0 = x.f1) : ((⟨(wordL x.f0).toArray⟩ : ByteArray) ++ (⟨#[58]⟩ : ByteArray)) ++ (⟨(wordL x.f1).toArray⟩ : ByteArray) = ⟨(pieceT x).toArray⟩ := by
  unfold pieceT
  rw [if_neg h]
  apply ByteArray.ext
  simp [ByteArray.data_append]
theorem size_mk (l : List UInt8) : (⟨l.toArray⟩ : ByteArray).size = l.length := by simp [ByteArray.size]
theorem size_app (a b : ByteArray) : (a ++ b).size = a.size + b.size := ByteArray.size_append
theorem joinB_pieces (l : List S28) : joinB (piecesB l) ⟨#[44]⟩ = ⟨(joinT l).toArray⟩ := by
  unfold joinB piecesB joinT
  rw [List.map_map]
  rfl
theorem strings_join_f (l : List S28) (h1 : l.length ≤ 64) (h3 : l.all rngB = true) : strings_Join.f (piecesB l) (⟨#[44]⟩ : ByteArray) = some ⟨(joinT l).toArray⟩ := by
  have := join_len l h3
  unfold strings_Join.f
  rw [joinB_pieces, if_pos ⟨by unfold piecesB; rw [List.length_map]; omega, by rw [size_mk]; omega⟩]
theorem printA_eq (l : List S28) (h1 : ¬ 64 < l.length) (h2 : l ≠ []) (h3 : l.all rngB = true) : printA l = (⟨(joinT l).toArray⟩, 0) := by
  unfold printA
  rw [if_neg h1, if_neg (by simp [h2, h3]), joinB_pieces]
theorem print_l0 (l : List S28) (hl : l.length ≤ 64) (d : Nat) : ∀ (i k : Nat), i + d = l.length → (l.take i).all rngB = true → d < k →
    span_Print.l0 k (piecesB (l.take i)) l (l.length : Int) (i : Int) = some (printA l) := by
  induction d with
  | zero =>
    intro i k hi ht hk
    obtain ⟨k, rfl⟩ : ∃ j, k = j + 1 := ⟨k - 1, by omega⟩
    rw [List.take_of_length_le (by omega)] at ht ⊢
    simp only [span_Print.l0]
    rw [if_neg (by omega)]
    by_cases h : l = []
    · subst h; rfl
    · rw [if_neg (by unfold piecesB; rw [List.length_map]; have : l.length ≠ 0 := by simpa using h
                     omega), printA_eq l (by omega) h ht, strings_join_f l (by omega) ht]
      rfl
  | succ d ih =>
    intro i k hi ht hk
    obtain ⟨k, rfl⟩ : ∃ j, k = j + 1 := ⟨k - 1, by omega⟩
    have hil : i < l.length := by omega
    have tk : l.take (i + 1) = l.take i ++ [l[i]] := List.take_succ_eq_append_getElem hil
    simp only [span_Print.l0]
    rw [if_pos (by omega), if_pos (by omega), if_pos (by omega), rd28_at l i hil, rng_f, Option.bind_some]
    by_cases hr : rngB l[i] = true
    · have ht2 : (l.take (i + 1)).all rngB = true := by rw [tk, List.all_append, ht]; simp [hr]
      have next := ih (i + 1) k (by omega) ht2 (by omega)
      have hp : piecesB (l.take (i + 1)) = piecesB (l.take i) ++ [⟨(pieceT l[i]).toArray⟩] := by rw [tk]; unfold piecesB; rw [List.map_append]; rfl
      rw [hp] at next
      have hlen : (piecesB (l.take i)).length < 8796093022208 := by unfold piecesB; rw [List.length_map, List.length_take]; omega
      have hrr := (rng_iff _).1 hr
      rw [if_pos hr, w64n i (by omega)]
      by_cases he : l[i].f0 = l[i].f1
      · rw [if_pos he, word_f _ (by omega) (by omega), Option.bind_some, if_pos hlen, pieceB_one _ he]
        exact next
      · have w0 := word_len l[i].f0 (by omega) (by omega)
        have w1 := word_len l[i].f1 (by omega) (by omega)
        have c1 : (⟨#[58]⟩ : ByteArray).size = 1 := rfl
        rw [if_neg he, word_f _ (by omega) (by omega), Option.bind_some, if_pos (by rw [size_mk]; omega), word_f _ (by omega) (by omega), Option.bind_some, if_pos (by rw [size_app, c1, size_mk, size_mk]; omega), if_pos hlen, pieceB_two _ he]
        exact next
    · rw [if_neg hr]
      unfold printA
      rw [if_neg (by omega), if_pos (Or.inr ?_)]
      rw [List.all_eq_false]
      exact ⟨l[i], List.getElem_mem hil, hr⟩
theorem print_f (l : List S28) (k : Nat) (hk : 70 ≤ k) : span_Print.f k l = some (printA l) := by
  unfold span_Print.f
  by_cases h : (l.length : Int) > 64
  · rw [if_pos h]; unfold printA; rw [if_pos (by omega)]
  · rw [if_neg h]
    exact print_l0 l (by omega) l.length 0 k (by omega) (by simp) (by omega)
theorem parse_print (l : List S28) (h1 : ¬ 64 < l.length) (h2 : l ≠ []) (h3 : l.all rngB = true) : parseA ⟨(joinT l).toArray⟩ = (l, 0) := by
  have hl := join_len l h3
  unfold parseA
  rw [size_mk, if_neg (by omega)]
  show finA (manyP _ (joinT l)) = _
  rw [many_join l h2 h3 _ (by omega)]
  unfold finA
  show (if 64 < (l.map pr).length then _ else _) = _
  rw [List.length_map, if_neg h1, List.map_map]
  have : l.map (un ∘ pr) = l := List.map_id l
  rw [this]
theorem parse_ok (t : ByteArray) (h : (parseA t).2 = 0) : ¬ 64 < (parseA t).1.length ∧ (parseA t).1 ≠ [] ∧ (parseA t).1.all rngB = true ∧ (joinT (parseA t).1).length ≤ t.size := by
  unfold parseA at *
  by_cases h1 : 4096 < t.size
  · rw [if_pos h1] at h; exact absurd h (by decide)
  · rw [if_neg h1] at h ⊢
    cases hm : manyP (t.size + 1) t.data.toList with
    | none => rw [hm] at h; exact absurd h (by decide)
    | some l =>
      rw [hm] at h
      have e : finA (some l) = if 64 < l.length then ([], 41) else (l.map un, 0) := rfl
      rw [e] at h ⊢
      by_cases h2 : 64 < l.length
      · rw [if_pos h2] at h; exact absurd h (by decide)
      · obtain ⟨m1, m2, m3⟩ := many_least _ _ _ hm
        rw [if_neg h2]
        exact ⟨by simpa using h2, by simpa using m2, m3, m1⟩
theorem parse_err (t : ByteArray) (h : (parseA t).2 ≠ 0) : (parseA t).1 = [] := by
  unfold parseA at *
  by_cases h1 : 4096 < t.size
  · rw [if_pos h1]
  · rw [if_neg h1] at h ⊢
    unfold finA at *
    split
    · rfl
    · split
      · rfl
      · rename_i l hm h2
        rw [hm] at h
        exact absurd (show (if 64 < l.length then (([] : List S28), (41 : Int)) else (l.map un, 0)).2 = 0 by rw [if_neg h2]) h
end Go.Proofs.YtidcchopmbodkaaDoor.Sp
end
section
namespace Go.Proofs.YtidcchopmbodkaaDoor.Sp
open Go.RowKit Go.Proofs.YtidcchopmbodkaaDoorW.PrintWords Go.Proofs.YtidcchopmbodkaaDoorW.PrintLast Go.Proofs.YtidcchopmbodkaaDoorW.PrintMore
theorem known_50 : postbaglaw4_known.f 50 = some true := by kernel_rfl
end Go.Proofs.YtidcchopmbodkaaDoor.Sp
end
section
namespace Go.Proofs.YtidcchopmbodkaaDoor.Sp
open Go.RowKit Go.Proofs.YtidcchopmbodkaaDoorW.PrintWords Go.Proofs.YtidcchopmbodkaaDoorW.PrintLast Go.Proofs.YtidcchopmbodkaaDoorW.PrintMore
open Par Canon
theorem known_b (k : Nat) (hk : 50 ≤ k) : postbaglaw4_known.f k = some true := at_rounds postbaglaw4_known.mono hk known_50
theorem sound_l0 (l : List S28) (hl : l.length ≤ 4000) (d : Nat) : ∀ (i k : Nat), i + d = l.length → d < k →
    postbaglaw4_sound.l0 k l (i : Int) = some ((l.drop i).all rngB && (decide (1 ≤ l.length) && decide (l.length ≤ 64))) := by
  induction d with
  | zero =>
    intro i k hi hk
    obtain ⟨k, rfl⟩ : ∃ j, k = j + 1 := ⟨k - 1, by omega⟩
    simp only [postbaglaw4_sound.l0]
    rw [if_neg (by omega), List.drop_of_length_le (by omega), List.all_nil, Bool.true_and]
    by_cases h : (l.length : Int) ≥ 1
    · rw [if_pos h, decide_eq_true (show 1 ≤ l.length by omega), Bool.true_and]
      congr 1
      rw [decide_eq_decide]; omega
    · rw [if_neg h, decide_eq_false (show ¬ 1 ≤ l.length by omega), Bool.false_and]
  | succ d ih =>
    intro i k hi hk
    obtain ⟨k, rfl⟩ : ∃ j, k = j + 1 := ⟨k - 1, by omega⟩
    have hil : i < l.length := by omega
    simp only [postbaglaw4_sound.l0]
    rw [if_pos (by omega), if_pos (by omega), rd28_at l i hil, w64n i (by omega), List.drop_eq_getElem_cons hil, List.all_cons]
    by_cases hr : rngB l[i] = true
    · have hrr := (rng_iff _).1 hr
      rw [if_neg (by omega), if_neg (by omega), if_neg (by omega), if_neg (by omega), hr, Bool.true_and]
      exact ih (i + 1) k (by omega) (by omega)
    · have hrr : ¬ (0 ≤ l[i].f0 ∧ 0 ≤ l[i].f1 ∧ l[i].f0 ≤ 4294967295 ∧ l[i].f1 ≤ 4294967295) := fun h => hr ((rng_iff _).2 h)
      rw [Bool.eq_false_iff.2 hr, Bool.false_and, Bool.false_and]
      by_cases c1 : l[i].f0 < 0
      · rw [if_pos c1]
      · rw [if_neg c1]
        by_cases c2 : l[i].f1 < 0
        · rw [if_pos c2]
        · rw [if_neg c2]
          by_cases c3 : l[i].f0 > 4294967295
          · rw [if_pos c3]
          · rw [if_neg c3, if_pos (by omega)]
theorem sound_f (l : List S28) (hl : l.length ≤ 4000) (k : Nat) (hk : 4001 ≤ k) : postbaglaw4_sound.f k l = some (l.all rngB && (decide (1 ≤ l.length) && decide (l.length ≤ 64))) := by
  unfold postbaglaw4_sound.f
  have := sound_l0 l hl l.length 0 k (by omega) (by omega)
  rw [List.drop_zero] at this
  exact this
theorem print_sound (l : List S28) : ((printA l).2 == 0) = (l.all rngB && (decide (1 ≤ l.length) && decide (l.length ≤ 64))) := by
  unfold printA
  by_cases h1 : 64 < l.length
  · rw [if_pos h1, decide_eq_false (show ¬ l.length ≤ 64 by omega)]; simp
  · rw [if_neg h1, decide_eq_true (show l.length ≤ 64 by omega)]
    by_cases h2 : l = []
    · rw [if_pos (Or.inl h2)]; subst h2; rfl
    · have : l.length ≠ 0 := by simpa using h2
      rw [decide_eq_true (show 1 ≤ l.length by omega)]
      by_cases h3 : l.all rngB = true
      · rw [if_neg (by simp [h2, h3]), h3]; rfl
      · rw [if_pos (Or.inr (Bool.eq_false_iff.2 h3)), Bool.eq_false_iff.2 h3]; rfl
theorem print_ok (l : List S28) (h : (printA l).2 = 0) : ¬ 64 < l.length ∧ l ≠ [] ∧ l.all rngB = true := by
  have := print_sound l
  rw [h] at this
  simp only [BEq.rfl, Bool.true_eq, Bool.and_eq_true, decide_eq_true_eq] at this
  refine ⟨by omega, ?_, this.1⟩
  rintro rfl
  simp at this
theorem print_err (l : List S28) (h : (printA l).2 ≠ 0) : (printA l).1 = ⟨#[]⟩ := by
  unfold printA at *
  split
  · rfl
  · rename_i h1
    rw [if_neg h1] at h
    split
    · rfl
    · rename_i h2
      rw [if_neg h2] at h
      exact absurd rfl h
theorem back_j1 (t : ByteArray) (k : Nat) (hk : 5000 ≤ k) : postbaglaw4_SpanBack.j1 k t = some true := by
  obtain ⟨k, rfl⟩ : ∃ j, k = j + 1 := ⟨k - 1, by omega⟩
  simp only [postbaglaw4_SpanBack.j1]
  show (if (parseA t).2 = 0 then _ else _) = _
  by_cases h : (parseA t).2 = 0
  · obtain ⟨p1, p2, p3, p4⟩ := parse_ok t h
    rw [if_pos h, print_f _ k (by omega), Option.bind_some]
    rw [printA_eq _ p1 p2 p3]
    simp only [span_Parse.f, Option.bind_some]
    rw [parse_print _ p1 p2 p3, if_pos rfl, if_pos trivial, if_pos (by rw [size_mk]; omega), sound_f _ (by omega) k (by omega), ← print_sound, printA_eq _ p1 p2 p3, Option.bind_some, if_pos (show (((0 : Int) == 0) = true) from rfl), same_f _ _ (by show (parseA t).1.length ≤ _; omega) k (by show (parseA t).1.length < k; omega), Option.bind_some, if_pos (decide_eq_true rfl), known_b k (by omega)]
    rfl
  · rw [if_neg h, parse_err t h, if_pos (show (([] : List S28).length : Int) = 0 from rfl), known_b k (by omega)]
    rfl
theorem back_true (l : List S28) (t : ByteArray) : ∃ k, postbaglaw4_SpanBack.f k l t = some true := by
  refine ⟨6000, ?_⟩
  unfold postbaglaw4_SpanBack.f
  by_cases h : (l.length : Int) > 3000
  · rw [if_pos h]
  · rw [if_neg h, print_f l _ (by omega), Option.bind_some, sound_f l (by omega) _ (by omega), ← print_sound, Option.bind_some, if_neg (by simp)]
    by_cases h0 : (printA l).2 = 0
    · rw [if_pos h0]
      obtain ⟨p1, p2, p3⟩ := print_ok l h0
      simp only [postbaglaw4_SpanBack.j0]
      rw [if_neg (by simp), if_pos h0]
      rw [printA_eq l p1 p2 p3]
      show (if (parseA ⟨(joinT l).toArray⟩).2 = 0 then ((postbaglaw4_same.f _ (parseA ⟨(joinT l).toArray⟩).1 l).bind _) else _) = _
      rw [parse_print _ p1 p2 p3, if_pos rfl, same_f _ _ (by show l.length ≤ _; omega) _ (by show l.length < _; omega), Option.bind_some, if_pos (decide_eq_true rfl)]
      exact back_j1 t _ (by omega)
    · rw [if_neg h0, print_err l h0, show ((⟨#[]⟩ : ByteArray).toList != ([] : List UInt8)) = false from by kernel_rfl]
      simp only [postbaglaw4_SpanBack.j0]
      rw [if_neg (by simp), if_neg h0]
      exact back_j1 t _ (by omega)
end Go.Proofs.YtidcchopmbodkaaDoor.Sp
namespace Go.Proofs.YtidcchopmbodkaaDoor.Pure
open Go.Proofs.YtidcchopmbodkaaDoor.Sp
theorem SpanBack (l : List S28) (t : ByteArray) {P Q : Prop} (_ : P) (_ : Q) : ∃ k, postbaglaw4_SpanBack.f k l t = some true := back_true l t
end Go.Proofs.YtidcchopmbodkaaDoor.Pure
end
section
namespace Go.Proofs.YtidcchopmbodkaaDoor.Sp
open Go.ChangeShapes Go.WideShapes Go.ChangeAt Go.RowKit
theorem gPow : Tryd.prog.globalNamed "internal/strconv.uint64pow10" = some 1 := by kernel_rfl
theorem tPow : (Tryd.prog.globals[1]?).map (·.type) = some 134 := by kernel_rfl
theorem door_met (os : Os) (args : Array Value) : laidMetH Tryd.prog [("math/bits.deBruijn32tab", Rows.laid_math_bits_deBruijn32tab), ("math/bits.deBruijn64tab", Rows.laid_math_bits_deBruijn64tab), ("internal/strconv.uint64pow10", Rows.laid_internal_strconv_uint64pow10)] ((World.doorLaid Tryd.prog 400 os).forCall (fun _ _ => 0) ⟨#[], args, []⟩).memory :=
  laidMetH_of_parts3 (fuel := 8) (laidMet_of_run' 8 (by kernel_rfl) (by kernel_rfl)) (by kernel_rfl) (by kernel_rfl)
theorem pow_data {H : Type} : (Rows.laid_internal_strconv_uint64pow10 : DataW H) = Lib.tabData .u64 Lib.pow10Tab := by kernel_rfl
theorem of_laid {W : World} (h : laidMetH Tryd.prog [("math/bits.deBruijn32tab", Rows.laid_math_bits_deBruijn32tab), ("math/bits.deBruijn64tab", Rows.laid_math_bits_deBruijn64tab), ("internal/strconv.uint64pow10", Rows.laid_internal_strconv_uint64pow10)] W) : Laid W := by
  rw [MakeChecks.laidMetH_plain _ _ _ (by kernel_rfl)] at h
  obtain ⟨ps, h1, _, _⟩ := h
  obtain ⟨_, _, _, _, _, _, _, _, _, _, h1, _⟩ := h1
  obtain ⟨_, _, _, _, _, _, _, _, _, _, h1, _⟩ := h1
  obtain ⟨g1, t1, cs1, f1, p1, q1, hg1, ht1, hv1, hd1, _, _⟩ := h1
  obtain rfl := Option.some.inj (gPow.symm.trans hg1)
  obtain rfl := Option.some.inj (tPow.symm.trans ht1)
  rw [pow_data] at hd1
  exact ⟨by unfold Lib.TabIs; rw [hv1, ← Lib.cells_of_tab Tryd.underlying134 Tryd.underlying113 (by kernel_rfl) (by kernel_rfl) hd1]⟩
end Go.Proofs.YtidcchopmbodkaaDoor.Sp
end
