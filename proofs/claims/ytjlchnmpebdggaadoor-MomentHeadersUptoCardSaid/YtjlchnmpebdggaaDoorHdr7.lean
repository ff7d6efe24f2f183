import Derived.Test.YtjlchnmpebdggaaDoorHdr2
import Derived.Test.YtjlchnmpebdggaaDoorHdr5
import Derived.Test.YtjlchnmpebdggaaDoorHdr6
import Derived.Laws.Rows
import Derived.BigRegion
section
namespace Go.Proofs.YtjlchnmpebdggaaDoor.Mo
open Go.RowKit Go.Proofs.YtjlchnmpebdggaaDoorW.PrintWords Go.Proofs.YtjlchnmpebdggaaDoorW.PrintLast Go.Proofs.YtjlchnmpebdggaaDoorW.PrintMore
attribute [local go_sem] max2_int min2_int max_two min_two max_three min_three max_four min_four   -- for this text's walks alone
set_option linter.unusedVariables false
set_option linter.unusedSimpArgs false
def moment_zone.j0 : Nat → ByteArray → Bool → Option (Int × Bool)
 | 0, _, _ => none
 | k + 1, x0, x21 => if x21 = true then (some (0, false)) else (if 1 ≤ 3 then (if 3 ≤ (x0.size : Int) then ((moment_below.f k (x0.extract 1 3) 23).bind fun bt119 => ((moment_below.f k (x0.extract 3 x0.size) 59).bind fun bt121 => (if 0 < (x0.size : Int) then (if (bt x0 0) = 45 then (if bt119.2 = true then (some (wrap64 (-(wrap64 ((wrap64 (60 * bt119.1)) + bt121.1))), bt121.2)) else (some (wrap64 (-(wrap64 ((wrap64 (60 * bt119.1)) + bt121.1))), false))) else (if bt119.2 = true then (some (wrap64 ((wrap64 (60 * bt119.1)) + bt121.1), bt121.2)) else (some (wrap64 ((wrap64 (60 * bt119.1)) + bt121.1), false)))) else (none)))) else (none)) else (none))
def moment_zone.f (k : Nat) (a0 : ByteArray) : Option (Int × Bool) := if (a0.size : Int) = 5 then (if 0 < (a0.size : Int) then (if (bt a0 0) = 43 then (moment_zone.j0 k a0 false) else (moment_zone.j0 k a0 ((bt a0 0) != 45))) else (none)) else (moment_zone.j0 k a0 true)
set_option maxHeartbeats 8000000 in
set_option maxRecDepth 100000 in
theorem moment_zone.calls (k : Nat) (a0 : ByteArray) (r1 : Int) (r2 : Bool) (w : World) (h : moment_zone.f k a0 = some (r1, r2)) :
  Calls Tryd.prog 71 #[.string a0] w fun e w' => e = .returned (.tuple #[.int .i64 r1, .bool r2]) ∧ Drawn0 w w' := by
 have H : (if (a0.size : Int) = 5 then (if 0 < (a0.size : Int) then (if (bt a0 0) = 43 then (moment_zone.j0 k a0 false) else (moment_zone.j0 k a0 ((bt a0 0) != 45))) else (none)) else (moment_zone.j0 k a0 true)) = some (r1, r2) := h
 clear h
 have HC2 := Aside0.mk H
 clear H
 go_enter Tryd.func71, Tryd.ntmps71
 go_upto_region 1 with (fail)
 go_cut [21] (fun v21 wc => ∃ (kq : Nat) (x21_1 : Bool), v21 = .bool x21_1 ∧ Aside0 (moment_zone.j0 kq a0 x21_1 = some (r1, r2)) ∧ Aside0 (kq ≤ k) ∧ Drawn0 w wc)
 case first =>
  have H := HC2.out
  clear HC2
  by_cases c3 : (a0.size : Int) = 5
  ·rw [if_pos c3] at H
   have c3b0 : ((a0.size : Int) == 5) = true := beq_iff_eq.mpr c3
   have c3b1 : ((a0.size : Int) != 5) = false := bne_eq_false_iff_eq.mpr c3
   clear c3
   (first | rw [c3b0] | (simp only [i64_w, i32_w]; rw [c3b0]) | skip)
   by_cases c4 : 0 < (a0.size : Int)
   ·rw [if_pos c4] at H
    have c4b0 : decide (0 < (a0.size : Int)) = true := decide_eq_true c4
    have c4b1 : decide (0 < a0.size) = true := decide_eq_true (by omega)
    clear c4
    by_cases c6 : (bt a0 0) = 43
    ·rw [if_pos c6] at H
     have c6b0 : ((bt a0 0) == 43) = true := beq_iff_eq.mpr c6
     have c6b1 : ((bt a0 0) != 43) = false := bne_eq_false_iff_eq.mpr c6
     clear c6
     have H' := Aside0.mk H
     clear H
     have p5 : 0 ≤ (0 : Int) := (by omega)
     have q5 : 0 < a0.size := (by have : (0 : Int) < (a0.size : Int) := of_decide_eq_true (by first | (with_reducible assumption) | assumption); omega)
     have hx5 : ∀ h : 0 < a0.size, ((a0[0]'h).toNat : Int) = bt a0 0 := bt_at a0 0
     clear p5
     have qi5 : (0 < (a0.size : Int)) = True := eq_true (of_decide_eq_true (by first | (with_reducible assumption) | assumption))
     replace q5 := eq_true q5
     go_wp2
     go_meet
     case rel => exact ⟨_, (false), (by first | rfl | (simp; done) | (simp [*]; done)), H', ⟨by first | omega | exact Nat.le_refl _⟩, by repeat (first | exact Drawn0.refl _ | apply Drawn0.step)⟩
    ·rw [if_neg c6] at H
     have c6b0 : ((bt a0 0) == 43) = false := beq_eq_false_iff_ne.mpr c6
     have c6b1 : ((bt a0 0) != 43) = true := bne_iff_ne.mpr c6
     have H' := Aside0.mk H
     clear H
     have p5 : 0 ≤ (0 : Int) := (by omega)
     have q5 : 0 < a0.size := (by have : (0 : Int) < (a0.size : Int) := of_decide_eq_true (by first | (with_reducible assumption) | assumption); omega)
     have hx5 : ∀ h : 0 < a0.size, ((a0[0]'h).toNat : Int) = bt a0 0 := bt_at a0 0
     clear p5
     have qi5 : (0 < (a0.size : Int)) = True := eq_true (of_decide_eq_true (by first | (with_reducible assumption) | assumption))
     replace q5 := eq_true q5
     have p7 : 0 ≤ (0 : Int) := (by omega)
     have q7 : 0 < a0.size := (by have : (0 : Int) < (a0.size : Int) := of_decide_eq_true (by first | (with_reducible assumption) | assumption); omega)
     have hx7 : ∀ h : 0 < a0.size, ((a0[0]'h).toNat : Int) = bt a0 0 := bt_at a0 0
     clear p7
     have qi7 : (0 < (a0.size : Int)) = True := eq_true (of_decide_eq_true (by first | (with_reducible assumption) | assumption))
     replace q7 := eq_true q7
     go_wp2
     go_meet
     case rel => exact ⟨_, (((bt a0 0) != 45)), (by first | rfl | (simp; done) | (simp [*]; done)), H', ⟨by first | omega | exact Nat.le_refl _⟩, by repeat (first | exact Drawn0.refl _ | apply Drawn0.step)⟩
   ·rw [if_neg c4] at H
    exact absurd H (by simp)
  ·rw [if_neg c3] at H
   have c3b0 : ((a0.size : Int) == 5) = false := beq_eq_false_iff_ne.mpr c3
   have c3b1 : ((a0.size : Int) != 5) = true := bne_iff_ne.mpr c3
   (first | rw [c3b0] | (simp only [i64_w, i32_w]; rw [c3b0]) | skip)
   have H' := Aside0.mk H
   clear H
   go_wp2
   go_meet
   case rel => exact ⟨_, (true), (by first | rfl | (simp; done) | (simp [*]; done)), H', ⟨by first | omega | exact Nat.le_refl _⟩, by repeat (first | exact Drawn0.refl _ | apply Drawn0.step)⟩
 case rest =>
  clear HC2
  try clear p2
  try clear c3
  try clear c3b0
  try clear c3b1
  try clear c4
  try clear c4b0
  try clear c4b1
  try clear p5
  try clear q5
  try clear hx5
  try clear qi5
  try clear c6
  try clear c6b0
  try clear c6b1
  try clear c7
  try clear p7
  try clear q7
  try clear hx7
  try clear qi7
  try clear p5
  try clear p7
  try clear q5
  try clear q7
  obtain ⟨kq, x21_1, rfl, HA, HJ1, ⟨mc1, rfl⟩⟩ := hcut
  cases kq with
  | zero => exact absurd HA.out (by simp [moment_zone.j0])
  | succ kj1 =>
   have H := HA.out
   clear HA
   simp only [moment_zone.j0] at H
   by_cases c8 : x21_1 = true
   ·subst c8
    have H1 : (some (0, false)) = some (r1, r2) := by rw [if_pos rfl] at H; exact H
    clear H
    have H := H1
    clear H1
    simp only [Option.some.injEq, Prod.mk.injEq] at H
    obtain ⟨rfl, rfl⟩ := H
    go_wp2
    go_ret2
    exact ⟨by first | rfl | (simp; done) | (simp [*]; done), by repeat (first | exact Drawn0.refl _ | apply Drawn0.step)⟩
   ·replace c8 := Bool.eq_false_iff.mpr c8
    subst c8
    have H1 : (if 1 ≤ 3 then (if 3 ≤ (a0.size : Int) then ((moment_below.f kj1 (a0.extract 1 3) 23).bind fun bt119 => ((moment_below.f kj1 (a0.extract 3 a0.size) 59).bind fun bt121 => (if 0 < (a0.size : Int) then (if (bt a0 0) = 45 then (if bt119.2 = true then (some (wrap64 (-(wrap64 ((wrap64 (60 * bt119.1)) + bt121.1))), bt121.2)) else (some (wrap64 (-(wrap64 ((wrap64 (60 * bt119.1)) + bt121.1))), false))) else (if bt119.2 = true then (some (wrap64 ((wrap64 (60 * bt119.1)) + bt121.1), bt121.2)) else (some (wrap64 ((wrap64 (60 * bt119.1)) + bt121.1), false)))) else (none)))) else (none)) else (none)) = some (r1, r2) := by rw [if_neg (show ¬ (false = true) by decide)] at H; exact H
    clear H
    have H := H1
    clear H1
    by_cases c9 : 1 ≤ 3
    ·rw [if_pos c9] at H
     have c9b0 := eq_true c9
     have c9b1 : decide (1 ≤ 3) = true := decide_eq_true c9
     clear c9
     by_cases c10 : 3 ≤ (a0.size : Int)
     ·rw [if_pos c10] at H
      have c10b0 := eq_true c10
      have c10b1 : decide (3 ≤ (a0.size : Int)) = true := decide_eq_true c10
      clear c10
      replace H := Option.bind_eq_some_iff.mp H
      obtain ⟨⟨t119, t120⟩, A110, H⟩ := H
      replace H : ((moment_below.f kj1 (a0.extract 3 a0.size) 59).bind fun bt121 => (if 0 < (a0.size : Int) then (if (bt a0 0) = 45 then (if t120 = true then (some (wrap64 (-(wrap64 ((wrap64 (60 * t119)) + bt121.1))), bt121.2)) else (some (wrap64 (-(wrap64 ((wrap64 (60 * t119)) + bt121.1))), false))) else (if t120 = true then (some (wrap64 ((wrap64 (60 * t119)) + bt121.1), bt121.2)) else (some (wrap64 ((wrap64 (60 * t119)) + bt121.1), false)))) else (none))) = some (r1, r2) := H
      have A11 := Aside0.mk A110
      clear A110
      have c12b0 := eq_true (of_decide_eq_true (by first | (with_reducible assumption) | assumption) : 3 ≤ (a0.size : Int))
      replace H := Option.bind_eq_some_iff.mp H
      obtain ⟨⟨t121, t122⟩, A130, H⟩ := H
      replace H : (if 0 < (a0.size : Int) then (if (bt a0 0) = 45 then (if t120 = true then (some (wrap64 (-(wrap64 ((wrap64 (60 * t119)) + t121))), t122)) else (some (wrap64 (-(wrap64 ((wrap64 (60 * t119)) + t121))), false))) else (if t120 = true then (some (wrap64 ((wrap64 (60 * t119)) + t121), t122)) else (some (wrap64 ((wrap64 (60 * t119)) + t121), false)))) else (none)) = some (r1, r2) := H
      have A13 := Aside0.mk A130
      clear A130
      by_cases c14 : 0 < (a0.size : Int)
      ·rw [if_pos c14] at H
       have c14b0 : decide (0 < (a0.size : Int)) = true := decide_eq_true c14
       have c14b1 : decide (0 < a0.size) = true := decide_eq_true (by omega)
       clear c14
       by_cases c16 : (bt a0 0) = 45
       ·rw [if_pos c16] at H
        have c16b0 : ((bt a0 0) == 45) = true := beq_iff_eq.mpr c16
        have c16b1 : ((bt a0 0) != 45) = false := bne_eq_false_iff_eq.mpr c16
        clear c16
        by_cases c17 : t120 = true
        ·subst c17
         have H1 : (some (wrap64 (-(wrap64 ((wrap64 (60 * t119)) + t121))), t122)) = some (r1, r2) := by rw [if_pos rfl] at H; exact H
         clear H
         have H := H1
         clear H1
         simp only [Option.some.injEq, Prod.mk.injEq] at H
         obtain ⟨rfl, rfl⟩ := H
         go_wp2_with (first | ((with_reducible refine gate_callee (f := 70) rfl ?_); refine goesL_ (some 25) rfl rfl Tryd.func70 (by kernel_rfl) rfl #[.string (a0.extract 1 3), .int .i64 23] rfl (by (try simp only [List.map_toArray, List.map_cons, List.map_nil]); first | done | rfl) ?_; (with_reducible refine (moment_below.calls kj1 (a0.extract 1 3) 23 t119 true _ A11.out).mono ?_); rintro e w' ⟨rfl, ⟨nd, rfl⟩⟩; refine ⟨_, rfl, ?_⟩) | ((with_reducible refine gate_callee (f := 70) rfl ?_); refine goesL_ (some 31) rfl rfl Tryd.func70 (by kernel_rfl) rfl #[.string (a0.extract 3 a0.size), .int .i64 59] rfl (by (try simp only [List.map_toArray, List.map_cons, List.map_nil]); first | done | rfl) ?_; (with_reducible refine (moment_below.calls kj1 (a0.extract 3 a0.size) 59 t121 t122 _ A13.out).mono ?_); rintro e w' ⟨rfl, ⟨nd, rfl⟩⟩; refine ⟨_, rfl, ?_⟩; have p15 : 0 ≤ (0 : Int) := (by omega); have q15 : 0 < a0.size := (by have : (0 : Int) < (a0.size : Int) := of_decide_eq_true (by first | (with_reducible assumption) | assumption); omega); have hx15 : ∀ h : 0 < a0.size, ((a0[0]'h).toNat : Int) = bt a0 0 := bt_at a0 0; clear p15; have qi15 : (0 < (a0.size : Int)) = True := eq_true (of_decide_eq_true (by first | (with_reducible assumption) | assumption)); replace q15 := eq_true q15))
         go_ret2
         exact ⟨by first | rfl | (simp; done) | (simp [*]; done), by repeat (first | exact Drawn0.refl _ | apply Drawn0.step)⟩
        ·replace c17 := Bool.eq_false_iff.mpr c17
         subst c17
         have H1 : (some (wrap64 (-(wrap64 ((wrap64 (60 * t119)) + t121))), false)) = some (r1, r2) := by rw [if_neg (show ¬ (false = true) by decide)] at H; exact H
         clear H
         have H := H1
         clear H1
         simp only [Option.some.injEq, Prod.mk.injEq] at H
         obtain ⟨rfl, rfl⟩ := H
         go_wp2_with (first | ((with_reducible refine gate_callee (f := 70) rfl ?_); refine goesL_ (some 25) rfl rfl Tryd.func70 (by kernel_rfl) rfl #[.string (a0.extract 1 3), .int .i64 23] rfl (by (try simp only [List.map_toArray, List.map_cons, List.map_nil]); first | done | rfl) ?_; (with_reducible refine (moment_below.calls kj1 (a0.extract 1 3) 23 t119 false _ A11.out).mono ?_); rintro e w' ⟨rfl, ⟨nd, rfl⟩⟩; refine ⟨_, rfl, ?_⟩) | ((with_reducible refine gate_callee (f := 70) rfl ?_); refine goesL_ (some 31) rfl rfl Tryd.func70 (by kernel_rfl) rfl #[.string (a0.extract 3 a0.size), .int .i64 59] rfl (by (try simp only [List.map_toArray, List.map_cons, List.map_nil]); first | done | rfl) ?_; (with_reducible refine (moment_below.calls kj1 (a0.extract 3 a0.size) 59 t121 t122 _ A13.out).mono ?_); rintro e w' ⟨rfl, ⟨nd, rfl⟩⟩; refine ⟨_, rfl, ?_⟩; have p15 : 0 ≤ (0 : Int) := (by omega); have q15 : 0 < a0.size := (by have : (0 : Int) < (a0.size : Int) := of_decide_eq_true (by first | (with_reducible assumption) | assumption); omega); have hx15 : ∀ h : 0 < a0.size, ((a0[0]'h).toNat : Int) = bt a0 0 := bt_at a0 0; clear p15; have qi15 : (0 < (a0.size : Int)) = True := eq_true (of_decide_eq_true (by first | (with_reducible assumption) | assumption)); replace q15 := eq_true q15))
         go_ret2
         exact ⟨by first | rfl | (simp; done) | (simp [*]; done), by repeat (first | exact Drawn0.refl _ | apply Drawn0.step)⟩
       ·rw [if_neg c16] at H
        have c16b0 : ((bt a0 0) == 45) = false := beq_eq_false_iff_ne.mpr c16
        have c16b1 : ((bt a0 0) != 45) = true := bne_iff_ne.mpr c16
        by_cases c18 : t120 = true
        ·subst c18
         have H1 : (some (wrap64 ((wrap64 (60 * t119)) + t121), t122)) = some (r1, r2) := by rw [if_pos rfl] at H; exact H
         clear H
         have H := H1
         clear H1
         simp only [Option.some.injEq, Prod.mk.injEq] at H
         obtain ⟨rfl, rfl⟩ := H
         go_wp2_with (first | ((with_reducible refine gate_callee (f := 70) rfl ?_); refine goesL_ (some 25) rfl rfl Tryd.func70 (by kernel_rfl) rfl #[.string (a0.extract 1 3), .int .i64 23] rfl (by (try simp only [List.map_toArray, List.map_cons, List.map_nil]); first | done | rfl) ?_; (with_reducible refine (moment_below.calls kj1 (a0.extract 1 3) 23 t119 true _ A11.out).mono ?_); rintro e w' ⟨rfl, ⟨nd, rfl⟩⟩; refine ⟨_, rfl, ?_⟩) | ((with_reducible refine gate_callee (f := 70) rfl ?_); refine goesL_ (some 31) rfl rfl Tryd.func70 (by kernel_rfl) rfl #[.string (a0.extract 3 a0.size), .int .i64 59] rfl (by (try simp only [List.map_toArray, List.map_cons, List.map_nil]); first | done | rfl) ?_; (with_reducible refine (moment_below.calls kj1 (a0.extract 3 a0.size) 59 t121 t122 _ A13.out).mono ?_); rintro e w' ⟨rfl, ⟨nd, rfl⟩⟩; refine ⟨_, rfl, ?_⟩; have p15 : 0 ≤ (0 : Int) := (by omega); have q15 : 0 < a0.size := (by have : (0 : Int) < (a0.size : Int) := of_decide_eq_true (by first | (with_reducible assumption) | assumption); omega); have hx15 : ∀ h : 0 < a0.size, ((a0[0]'h).toNat : Int) = bt a0 0 := bt_at a0 0; clear p15; have qi15 : (0 < (a0.size : Int)) = True := eq_true (of_decide_eq_true (by first | (with_reducible assumption) | assumption)); replace q15 := eq_true q15))
         go_ret2
         exact ⟨by first | rfl | (simp; done) | (simp [*]; done), by repeat (first | exact Drawn0.refl _ | apply Drawn0.step)⟩
        ·replace c18 := Bool.eq_false_iff.mpr c18
         subst c18
         have H1 : (some (wrap64 ((wrap64 (60 * t119)) + t121), false)) = some (r1, r2) := by rw [if_neg (show ¬ (false = true) by decide)] at H; exact H
         clear H
         have H := H1
         clear H1
         simp only [Option.some.injEq, Prod.mk.injEq] at H
         obtain ⟨rfl, rfl⟩ := H
         go_wp2_with (first | ((with_reducible refine gate_callee (f := 70) rfl ?_); refine goesL_ (some 25) rfl rfl Tryd.func70 (by kernel_rfl) rfl #[.string (a0.extract 1 3), .int .i64 23] rfl (by (try simp only [List.map_toArray, List.map_cons, List.map_nil]); first | done | rfl) ?_; (with_reducible refine (moment_below.calls kj1 (a0.extract 1 3) 23 t119 false _ A11.out).mono ?_); rintro e w' ⟨rfl, ⟨nd, rfl⟩⟩; refine ⟨_, rfl, ?_⟩) | ((with_reducible refine gate_callee (f := 70) rfl ?_); refine goesL_ (some 31) rfl rfl Tryd.func70 (by kernel_rfl) rfl #[.string (a0.extract 3 a0.size), .int .i64 59] rfl (by (try simp only [List.map_toArray, List.map_cons, List.map_nil]); first | done | rfl) ?_; (with_reducible refine (moment_below.calls kj1 (a0.extract 3 a0.size) 59 t121 t122 _ A13.out).mono ?_); rintro e w' ⟨rfl, ⟨nd, rfl⟩⟩; refine ⟨_, rfl, ?_⟩; have p15 : 0 ≤ (0 : Int) := (by omega); have q15 : 0 < a0.size := (by have : (0 : Int) < (a0.size : Int) := of_decide_eq_true (by first | (with_reducible assumption) | assumption); omega); have hx15 : ∀ h : 0 < a0.size, ((a0[0]'h).toNat : Int) = bt a0 0 := bt_at a0 0; clear p15; have qi15 : (0 < (a0.size : Int)) = True := eq_true (of_decide_eq_true (by first | (with_reducible assumption) | assumption)); replace q15 := eq_true q15))
         go_ret2
         exact ⟨by first | rfl | (simp; done) | (simp [*]; done), by repeat (first | exact Drawn0.refl _ | apply Drawn0.step)⟩
      ·rw [if_neg c14] at H
       exact absurd H (by simp)
     ·rw [if_neg c10] at H
      exact absurd H (by simp)
    ·rw [if_neg c9] at H
     exact absurd H (by simp)
def moment_read.f (a0_0 : Int) (a0_1 : Int) (a0_2 : Int) (a0_3 : Int) (a0_4 : Int) (a0_5 : Int) (a0_6 : Int) (a1 : Bool) : Option (Int × Int × Int × Int × Int × Int × Int × Int) := if a1 = true then ((moment_isDay.f a0_0 a0_1 a0_2 a0_3 a0_4 a0_5 a0_6).bind fun t127 => (if t127 = true then (some (a0_0, a0_1, a0_2, a0_3, a0_4, a0_5, a0_6, 0)) else (some (0, 0, 0, 0, 0, 0, 0, 21)))) else (some (0, 0, 0, 0, 0, 0, 0, 20))
set_option maxHeartbeats 8000000 in
set_option maxRecDepth 100000 in
theorem moment_read.calls (a0_0 : Int) (a0_1 : Int) (a0_2 : Int) (a0_3 : Int) (a0_4 : Int) (a0_5 : Int) (a0_6 : Int) (a1 : Bool) (r1 : Int) (r2 : Int) (r3 : Int) (r4 : Int) (r5 : Int) (r6 : Int) (r7 : Int) (r8 : Int) (w : World) (h : moment_read.f a0_0 a0_1 a0_2 a0_3 a0_4 a0_5 a0_6 a1 = some (r1, r2, r3, r4, r5, r6, r7, r8)) (hL_ : Laid w) :
  Calls Tryd.prog 60 #[.agg #[.int .i64 a0_0, .int .i64 a0_1, .int .i64 a0_2, .int .i64 a0_3, .int .i64 a0_4, .int .i64 a0_5, .int .i64 a0_6], .bool a1] w fun e w' => e = .returned (.tuple #[.agg #[.int .i64 r1, .int .i64 r2, .int .i64 r3, .int .i64 r4, .int .i64 r5, .int .i64 r6, .int .i64 r7], .int .i64 r8]) ∧ Below w.heap.size w w' := by
 have HL_ := Aside0.mk hL_
 clear hL_
 have hu23 := Tryd.underlying23
 have HB := Aside0.mk (Below.refl w.heap.size w)
 have H : (if a1 = true then ((moment_isDay.f a0_0 a0_1 a0_2 a0_3 a0_4 a0_5 a0_6).bind fun t127 => (if t127 = true then (some (a0_0, a0_1, a0_2, a0_3, a0_4, a0_5, a0_6, 0)) else (some (0, 0, 0, 0, 0, 0, 0, 21)))) else (some (0, 0, 0, 0, 0, 0, 0, 20))) = some (r1, r2, r3, r4, r5, r6, r7, r8) := h
 clear h
 by_cases c3 : a1 = true
 ·subst c3
  have H1 : ((moment_isDay.f a0_0 a0_1 a0_2 a0_3 a0_4 a0_5 a0_6).bind fun t127 => (if t127 = true then (some (a0_0, a0_1, a0_2, a0_3, a0_4, a0_5, a0_6, 0)) else (some (0, 0, 0, 0, 0, 0, 0, 21)))) = some (r1, r2, r3, r4, r5, r6, r7, r8) := by rw [if_pos rfl] at H; exact H
  clear H
  have H := H1
  clear H1
  replace H := Option.bind_eq_some_iff.mp H
  obtain ⟨t127, A40, H⟩ := H
  replace H : (if t127 = true then (some (a0_0, a0_1, a0_2, a0_3, a0_4, a0_5, a0_6, 0)) else (some (0, 0, 0, 0, 0, 0, 0, 21))) = some (r1, r2, r3, r4, r5, r6, r7, r8) := H
  have A4 := Aside0.mk A40
  clear A40
  by_cases c5 : t127 = true
  ·subst c5
   have H1 : (some (a0_0, a0_1, a0_2, a0_3, a0_4, a0_5, a0_6, 0)) = some (r1, r2, r3, r4, r5, r6, r7, r8) := by rw [if_pos rfl] at H; exact H
   clear H
   have H := H1
   clear H1
   simp only [Option.some.injEq, Prod.mk.injEq] at H
   obtain ⟨rfl, rfl, rfl, rfl, rfl, rfl, rfl, rfl⟩ := H
   go_enter Tryd.func60, Tryd.ntmps60
   go_wp2_with (first | ((with_reducible refine gate_dst (N := 2) rfl ?_); refine box_event ?hg (N := 2) ?hd (cs := #[.int .i64 a0_0, .int .i64 a0_1, .int .i64 a0_2, .int .i64 a0_3, .int .i64 a0_4, .int .i64 a0_5, .int .i64 a0_6]) (t := 23) ?hr ?_; (case hd => rfl); (case hg => rfl); (case hr => first | (go_simp; done) | (go_simp; rfl)); intro gb125 hg w6 hbox hb; have n0_ := Aside0.mk (below_step (by repeat (first | (with_reducible first | exact HB.out | apply below_alloc | apply pw_below_drewN | apply below_drew1) | exact HB.out)) hb); have n1_ := Aside0.mk (hbox); have n2_ := Aside0.mk ((by rw [hg]; exact (below_size (by repeat (first | (with_reducible first | exact HB.out | apply below_alloc | apply pw_below_drewN | apply below_drew1) | exact HB.out))) : w.heap.size ≤ gb125)); have n3_ := Aside0.mk ((by rw [hg]; exact (below_size (by repeat (first | (with_reducible first | exact HB.out | apply below_alloc | apply pw_below_drewN | apply below_drew1) | exact HB.out))) : w.heap.size ≤ gb125)); clear HB; have HB := n0_; have BK125 := n1_; have GW125 := n2_; have GE125 := n3_; clear n0_ n1_ n2_ n3_; clear hb hbox hg) | ((with_reducible refine gate_dst (N := 4) rfl ?_); refine box_event ?hg (N := 4) ?hd (cs := #[.int .i64 0, .int .i64 0, .int .i64 0, .int .i64 0, .int .i64 0, .int .i64 0, .int .i64 0]) (t := 23) ?hr ?_; (case hd => rfl); (case hg => rfl); (case hr => first | (go_simp; done) | (go_simp; rfl)); intro gb126 hg w7 hbox hb; have n0_ := Aside0.mk (blk_below (g := gb125) (o := .cells #[.int .i64 a0_0, .int .i64 a0_1, .int .i64 a0_2, .int .i64 a0_3, .int .i64 a0_4, .int .i64 a0_5, .int .i64 a0_6] 23 (0, 0)) (by (with_reducible repeat first | refine blk_drewN ?_ _ | refine blk_alloc ?_ _); exact BK125.out) hb); have n1_ := Aside0.mk (below_step (by repeat (first | (with_reducible first | exact HB.out | apply below_alloc | apply pw_below_drewN | apply below_drew1 | refine below_set ?_ GE125.out) | exact HB.out)) hb); have n2_ := Aside0.mk (hbox); have n3_ := Aside0.mk ((by rw [hg]; exact (below_size (by repeat (first | (with_reducible first | exact HB.out | apply below_alloc | apply pw_below_drewN | apply below_drew1 | refine below_set ?_ GE125.out) | exact HB.out))) : w.heap.size ≤ gb126)); have n4_ := Aside0.mk ((by rw [hg]; exact (below_size (by repeat (first | (with_reducible first | exact HB.out | apply below_alloc | apply pw_below_drewN | apply below_drew1 | refine below_set ?_ GE125.out) | exact HB.out))) : w.heap.size ≤ gb126)); have n5_ := Aside0.mk ((by rw [hg]; exact Nat.ne_of_lt (blk_lt (g := gb125) (o := .cells #[.int .i64 a0_0, .int .i64 a0_1, .int .i64 a0_2, .int .i64 a0_3, .int .i64 a0_4, .int .i64 a0_5, .int .i64 a0_6] 23 (0, 0)) (by (with_reducible repeat first | refine blk_drewN ?_ _ | refine blk_alloc ?_ _); exact BK125.out)) : gb125 ≠ gb126)); have n6_ := Aside0.mk ((by rw [hg]; exact Nat.ne_of_gt (blk_lt (g := gb125) (o := .cells #[.int .i64 a0_0, .int .i64 a0_1, .int .i64 a0_2, .int .i64 a0_3, .int .i64 a0_4, .int .i64 a0_5, .int .i64 a0_6] 23 (0, 0)) (by (with_reducible repeat first | refine blk_drewN ?_ _ | refine blk_alloc ?_ _); exact BK125.out)) : gb126 ≠ gb125)); clear BK125; clear HB; have BK125 := n0_; have HB := n1_; have BK126 := n2_; have GW126 := n3_; have GE126 := n4_; have NB125_126 := n5_; have NB126_125 := n6_; clear n0_ n1_ n2_ n3_ n4_ n5_ n6_; clear hb hbox hg; have hnb8 := NB125_126.out; have hnc8 := NB126_125.out; have hcz9_0 : w7.cell? ⟨gb125, 0, none⟩ = some (.int .i64 a0_0) := (blk_cell BK125.out 0).trans rfl; have hcz9_1 : w7.cell? ⟨gb125, 1, none⟩ = some (.int .i64 a0_1) := (blk_cell BK125.out 1).trans rfl; have hcz9_2 : w7.cell? ⟨gb125, 2, none⟩ = some (.int .i64 a0_2) := (blk_cell BK125.out 2).trans rfl; have hcz9_3 : w7.cell? ⟨gb125, 3, none⟩ = some (.int .i64 a0_3) := (blk_cell BK125.out 3).trans rfl; have hcz9_4 : w7.cell? ⟨gb125, 4, none⟩ = some (.int .i64 a0_4) := (blk_cell BK125.out 4).trans rfl; have hcz9_5 : w7.cell? ⟨gb125, 5, none⟩ = some (.int .i64 a0_5) := (blk_cell BK125.out 5).trans rfl; have hcz9_6 : w7.cell? ⟨gb125, 6, none⟩ = some (.int .i64 a0_6) := (blk_cell BK125.out 6).trans rfl; have hfz9_0 := blk_frozen BK125.out 0; have hfz9_1 := blk_frozen BK125.out 1; have hfz9_2 := blk_frozen BK125.out 2; have hfz9_3 := blk_frozen BK125.out 3; have hfz9_4 := blk_frozen BK125.out 4; have hfz9_5 := blk_frozen BK125.out 5; have hfz9_6 := blk_frozen BK125.out 6) | ((with_reducible refine gate_callee (f := 46) rfl ?_); refine goesL_ (some 12) rfl rfl Tryd.func46 (by kernel_rfl) rfl #[.agg #[.int .i64 a0_0, .int .i64 a0_1, .int .i64 a0_2, .int .i64 a0_3, .int .i64 a0_4, .int .i64 a0_5, .int .i64 a0_6]] rfl (by (try simp only [List.map_toArray, List.map_cons, List.map_nil]); first | done | rfl) ?_; (with_reducible refine (moment_isDay.calls a0_0 a0_1 a0_2 a0_3 a0_4 a0_5 a0_6 true _ A4.out (by first | exact laid_below HL_.out (by repeat (first | (with_reducible first | exact HB.out | apply below_alloc | apply pw_below_drewN | apply below_drew1) | exact HB.out)) | exact laid_drawn HL_.out (by repeat (first | exact Drawn0.refl _ | apply Drawn0.step)))).mono ?_); rintro e w10 ⟨rfl, hb⟩; refine ⟨_, rfl, ?_⟩; have n0_ := Aside0.mk (blk_below (g := gb125) (o := .cells #[.int .i64 a0_0, .int .i64 a0_1, .int .i64 a0_2, .int .i64 a0_3, .int .i64 a0_4, .int .i64 a0_5, .int .i64 a0_6] 23 (0, 0)) (by (with_reducible repeat first | refine blk_drewN ?_ _ | refine blk_alloc ?_ _); exact BK125.out) hb); have n1_ := Aside0.mk (blk_below (g := gb126) (o := .cells #[.int .i64 0, .int .i64 0, .int .i64 0, .int .i64 0, .int .i64 0, .int .i64 0, .int .i64 0] 23 (0, 0)) (by (with_reducible repeat first | refine blk_drewN ?_ _ | refine blk_alloc ?_ _); exact BK126.out) hb); have n2_ := Aside0.mk (below_step (by repeat (first | (with_reducible first | exact HB.out | apply below_alloc | apply pw_below_drewN | apply below_drew1 | refine below_set ?_ GE125.out | refine below_set ?_ GE126.out) | exact HB.out)) hb); clear BK125; clear BK126; clear HB; have BK125 := n0_; have BK126 := n1_; have HB := n2_; clear n0_ n1_ n2_; (try clear hb); (try clear hb2); (try clear hk); (try clear hi); have hcz11_0 : w10.cell? ⟨gb125, 0, none⟩ = some (.int .i64 a0_0) := (blk_cell BK125.out 0).trans rfl; have hcz11_1 : w10.cell? ⟨gb125, 1, none⟩ = some (.int .i64 a0_1) := (blk_cell BK125.out 1).trans rfl; have hcz11_2 : w10.cell? ⟨gb125, 2, none⟩ = some (.int .i64 a0_2) := (blk_cell BK125.out 2).trans rfl; have hcz11_3 : w10.cell? ⟨gb125, 3, none⟩ = some (.int .i64 a0_3) := (blk_cell BK125.out 3).trans rfl; have hcz11_4 : w10.cell? ⟨gb125, 4, none⟩ = some (.int .i64 a0_4) := (blk_cell BK125.out 4).trans rfl; have hcz11_5 : w10.cell? ⟨gb125, 5, none⟩ = some (.int .i64 a0_5) := (blk_cell BK125.out 5).trans rfl; have hcz11_6 : w10.cell? ⟨gb125, 6, none⟩ = some (.int .i64 a0_6) := (blk_cell BK125.out 6).trans rfl; have hfz11_0 := blk_frozen BK125.out 0; have hfz11_1 := blk_frozen BK125.out 1; have hfz11_2 := blk_frozen BK125.out 2; have hfz11_3 := blk_frozen BK125.out 3; have hfz11_4 := blk_frozen BK125.out 4; have hfz11_5 := blk_frozen BK125.out 5; have hfz11_6 := blk_frozen BK125.out 6; have hcz12_0 : w10.cell? ⟨gb126, 0, none⟩ = some (.int .i64 0) := (blk_cell BK126.out 0).trans rfl; have hcz12_1 : w10.cell? ⟨gb126, 1, none⟩ = some (.int .i64 0) := (blk_cell BK126.out 1).trans rfl; have hcz12_2 : w10.cell? ⟨gb126, 2, none⟩ = some (.int .i64 0) := (blk_cell BK126.out 2).trans rfl; have hcz12_3 : w10.cell? ⟨gb126, 3, none⟩ = some (.int .i64 0) := (blk_cell BK126.out 3).trans rfl; have hcz12_4 : w10.cell? ⟨gb126, 4, none⟩ = some (.int .i64 0) := (blk_cell BK126.out 4).trans rfl; have hcz12_5 : w10.cell? ⟨gb126, 5, none⟩ = some (.int .i64 0) := (blk_cell BK126.out 5).trans rfl; have hcz12_6 : w10.cell? ⟨gb126, 6, none⟩ = some (.int .i64 0) := (blk_cell BK126.out 6).trans rfl; have hfz12_0 := blk_frozen BK126.out 0; have hfz12_1 := blk_frozen BK126.out 1; have hfz12_2 := blk_frozen BK126.out 2; have hfz12_3 := blk_frozen BK126.out 3; have hfz12_4 := blk_frozen BK126.out 4; have hfz12_5 := blk_frozen BK126.out 5; have hfz12_6 := blk_frozen BK126.out 6))
   refine bodyPost_ret (results_ct rfl _ _ gb126 23 #[.int .i64 a0_0, .int .i64 a0_1, .int .i64 a0_2, .int .i64 a0_3, .int .i64 a0_4, .int .i64 a0_5, .int .i64 a0_6] (0, 0) _ rfl (by (with_reducible repeat first | refine blk_drewN ?_ _ | refine blk_alloc ?_ _); refine blk_put (cs := #[.int .i64 a0_0, .int .i64 a0_1, .int .i64 a0_2, .int .i64 a0_3, .int .i64 a0_4, .int .i64 a0_5, .int .i64 0]) ?_ 6 _ rfl; (with_reducible repeat first | refine blk_drewN ?_ _ | refine blk_alloc ?_ _); refine blk_put (cs := #[.int .i64 a0_0, .int .i64 a0_1, .int .i64 a0_2, .int .i64 a0_3, .int .i64 a0_4, .int .i64 0, .int .i64 0]) ?_ 5 _ rfl; (with_reducible repeat first | refine blk_drewN ?_ _ | refine blk_alloc ?_ _); refine blk_put (cs := #[.int .i64 a0_0, .int .i64 a0_1, .int .i64 a0_2, .int .i64 a0_3, .int .i64 0, .int .i64 0, .int .i64 0]) ?_ 4 _ rfl; (with_reducible repeat first | refine blk_drewN ?_ _ | refine blk_alloc ?_ _); refine blk_put (cs := #[.int .i64 a0_0, .int .i64 a0_1, .int .i64 a0_2, .int .i64 0, .int .i64 0, .int .i64 0, .int .i64 0]) ?_ 3 _ rfl; (with_reducible repeat first | refine blk_drewN ?_ _ | refine blk_alloc ?_ _); refine blk_put (cs := #[.int .i64 a0_0, .int .i64 a0_1, .int .i64 0, .int .i64 0, .int .i64 0, .int .i64 0, .int .i64 0]) ?_ 2 _ rfl; (with_reducible repeat first | refine blk_drewN ?_ _ | refine blk_alloc ?_ _); refine blk_put (cs := #[.int .i64 a0_0, .int .i64 0, .int .i64 0, .int .i64 0, .int .i64 0, .int .i64 0, .int .i64 0]) ?_ 1 _ rfl; (with_reducible repeat first | refine blk_drewN ?_ _ | refine blk_alloc ?_ _); refine blk_put (cs := #[.int .i64 0, .int .i64 0, .int .i64 0, .int .i64 0, .int .i64 0, .int .i64 0, .int .i64 0]) ?_ 0 _ rfl; (with_reducible repeat first | refine blk_drewN ?_ _ | refine blk_alloc ?_ _); exact BK126.out) Tryd.underlying23 rfl (by kernel_rfl)) rfl ?_
   exact ⟨by first | rfl | (simp [errW_none, errW_some] <;> rfl) | (simp [*, errW_none, errW_some] <;> rfl), by repeat (first | (with_reducible first | exact HB.out | apply below_alloc | apply pw_below_drewN | apply below_drew1 | refine below_set ?_ GE125.out | refine below_set ?_ GE126.out) | exact HB.out)⟩
  ·replace c5 := Bool.eq_false_iff.mpr c5
   subst c5
   have H1 : (some (0, 0, 0, 0, 0, 0, 0, 21)) = some (r1, r2, r3, r4, r5, r6, r7, r8) := by rw [if_neg (show ¬ (false = true) by decide)] at H; exact H
   clear H
   have H := H1
   clear H1
   simp only [Option.some.injEq, Prod.mk.injEq] at H
   obtain ⟨rfl, rfl, rfl, rfl, rfl, rfl, rfl, rfl⟩ := H
   go_enter Tryd.func60, Tryd.ntmps60
   go_wp2_with (first | ((with_reducible refine gate_dst (N := 2) rfl ?_); refine box_event ?hg (N := 2) ?hd (cs := #[.int .i64 a0_0, .int .i64 a0_1, .int .i64 a0_2, .int .i64 a0_3, .int .i64 a0_4, .int .i64 a0_5, .int .i64 a0_6]) (t := 23) ?hr ?_; (case hd => rfl); (case hg => rfl); (case hr => first | (go_simp; done) | (go_simp; rfl)); intro gb125 hg w13 hbox hb; have n0_ := Aside0.mk (below_step (by repeat (first | (with_reducible first | exact HB.out | apply below_alloc | apply pw_below_drewN | apply below_drew1) | exact HB.out)) hb); have n1_ := Aside0.mk (hbox); have n2_ := Aside0.mk ((by rw [hg]; exact (below_size (by repeat (first | (with_reducible first | exact HB.out | apply below_alloc | apply pw_below_drewN | apply below_drew1) | exact HB.out))) : w.heap.size ≤ gb125)); have n3_ := Aside0.mk ((by rw [hg]; exact (below_size (by repeat (first | (with_reducible first | exact HB.out | apply below_alloc | apply pw_below_drewN | apply below_drew1) | exact HB.out))) : w.heap.size ≤ gb125)); clear HB; have HB := n0_; have BK125 := n1_; have GW125 := n2_; have GE125 := n3_; clear n0_ n1_ n2_ n3_; clear hb hbox hg) | ((with_reducible refine gate_dst (N := 4) rfl ?_); refine box_event ?hg (N := 4) ?hd (cs := #[.int .i64 0, .int .i64 0, .int .i64 0, .int .i64 0, .int .i64 0, .int .i64 0, .int .i64 0]) (t := 23) ?hr ?_; (case hd => rfl); (case hg => rfl); (case hr => first | (go_simp; done) | (go_simp; rfl)); intro gb126 hg w14 hbox hb; have n0_ := Aside0.mk (blk_below (g := gb125) (o := .cells #[.int .i64 a0_0, .int .i64 a0_1, .int .i64 a0_2, .int .i64 a0_3, .int .i64 a0_4, .int .i64 a0_5, .int .i64 a0_6] 23 (0, 0)) (by (with_reducible repeat first | refine blk_drewN ?_ _ | refine blk_alloc ?_ _); exact BK125.out) hb); have n1_ := Aside0.mk (below_step (by repeat (first | (with_reducible first | exact HB.out | apply below_alloc | apply pw_below_drewN | apply below_drew1 | refine below_set ?_ GE125.out) | exact HB.out)) hb); have n2_ := Aside0.mk (hbox); have n3_ := Aside0.mk ((by rw [hg]; exact (below_size (by repeat (first | (with_reducible first | exact HB.out | apply below_alloc | apply pw_below_drewN | apply below_drew1 | refine below_set ?_ GE125.out) | exact HB.out))) : w.heap.size ≤ gb126)); have n4_ := Aside0.mk ((by rw [hg]; exact (below_size (by repeat (first | (with_reducible first | exact HB.out | apply below_alloc | apply pw_below_drewN | apply below_drew1 | refine below_set ?_ GE125.out) | exact HB.out))) : w.heap.size ≤ gb126)); have n5_ := Aside0.mk ((by rw [hg]; exact Nat.ne_of_lt (blk_lt (g := gb125) (o := .cells #[.int .i64 a0_0, .int .i64 a0_1, .int .i64 a0_2, .int .i64 a0_3, .int .i64 a0_4, .int .i64 a0_5, .int .i64 a0_6] 23 (0, 0)) (by (with_reducible repeat first | refine blk_drewN ?_ _ | refine blk_alloc ?_ _); exact BK125.out)) : gb125 ≠ gb126)); have n6_ := Aside0.mk ((by rw [hg]; exact Nat.ne_of_gt (blk_lt (g := gb125) (o := .cells #[.int .i64 a0_0, .int .i64 a0_1, .int .i64 a0_2, .int .i64 a0_3, .int .i64 a0_4, .int .i64 a0_5, .int .i64 a0_6] 23 (0, 0)) (by (with_reducible repeat first | refine blk_drewN ?_ _ | refine blk_alloc ?_ _); exact BK125.out)) : gb126 ≠ gb125)); clear BK125; clear HB; have BK125 := n0_; have HB := n1_; have BK126 := n2_; have GW126 := n3_; have GE126 := n4_; have NB125_126 := n5_; have NB126_125 := n6_; clear n0_ n1_ n2_ n3_ n4_ n5_ n6_; clear hb hbox hg; have hnb15 := NB125_126.out; have hnc15 := NB126_125.out; have hcz16_0 : w14.cell? ⟨gb125, 0, none⟩ = some (.int .i64 a0_0) := (blk_cell BK125.out 0).trans rfl; have hcz16_1 : w14.cell? ⟨gb125, 1, none⟩ = some (.int .i64 a0_1) := (blk_cell BK125.out 1).trans rfl; have hcz16_2 : w14.cell? ⟨gb125, 2, none⟩ = some (.int .i64 a0_2) := (blk_cell BK125.out 2).trans rfl; have hcz16_3 : w14.cell? ⟨gb125, 3, none⟩ = some (.int .i64 a0_3) := (blk_cell BK125.out 3).trans rfl; have hcz16_4 : w14.cell? ⟨gb125, 4, none⟩ = some (.int .i64 a0_4) := (blk_cell BK125.out 4).trans rfl; have hcz16_5 : w14.cell? ⟨gb125, 5, none⟩ = some (.int .i64 a0_5) := (blk_cell BK125.out 5).trans rfl; have hcz16_6 : w14.cell? ⟨gb125, 6, none⟩ = some (.int .i64 a0_6) := (blk_cell BK125.out 6).trans rfl; have hfz16_0 := blk_frozen BK125.out 0; have hfz16_1 := blk_frozen BK125.out 1; have hfz16_2 := blk_frozen BK125.out 2; have hfz16_3 := blk_frozen BK125.out 3; have hfz16_4 := blk_frozen BK125.out 4; have hfz16_5 := blk_frozen BK125.out 5; have hfz16_6 := blk_frozen BK125.out 6) | ((with_reducible refine gate_callee (f := 46) rfl ?_); refine goesL_ (some 12) rfl rfl Tryd.func46 (by kernel_rfl) rfl #[.agg #[.int .i64 a0_0, .int .i64 a0_1, .int .i64 a0_2, .int .i64 a0_3, .int .i64 a0_4, .int .i64 a0_5, .int .i64 a0_6]] rfl (by (try simp only [List.map_toArray, List.map_cons, List.map_nil]); first | done | rfl) ?_; (with_reducible refine (moment_isDay.calls a0_0 a0_1 a0_2 a0_3 a0_4 a0_5 a0_6 false _ A4.out (by first | exact laid_below HL_.out (by repeat (first | (with_reducible first | exact HB.out | apply below_alloc | apply pw_below_drewN | apply below_drew1) | exact HB.out)) | exact laid_drawn HL_.out (by repeat (first | exact Drawn0.refl _ | apply Drawn0.step)))).mono ?_); rintro e w17 ⟨rfl, hb⟩; refine ⟨_, rfl, ?_⟩; have n0_ := Aside0.mk (blk_below (g := gb125) (o := .cells #[.int .i64 a0_0, .int .i64 a0_1, .int .i64 a0_2, .int .i64 a0_3, .int .i64 a0_4, .int .i64 a0_5, .int .i64 a0_6] 23 (0, 0)) (by (with_reducible repeat first | refine blk_drewN ?_ _ | refine blk_alloc ?_ _); exact BK125.out) hb); have n1_ := Aside0.mk (blk_below (g := gb126) (o := .cells #[.int .i64 0, .int .i64 0, .int .i64 0, .int .i64 0, .int .i64 0, .int .i64 0, .int .i64 0] 23 (0, 0)) (by (with_reducible repeat first | refine blk_drewN ?_ _ | refine blk_alloc ?_ _); exact BK126.out) hb); have n2_ := Aside0.mk (below_step (by repeat (first | (with_reducible first | exact HB.out | apply below_alloc | apply pw_below_drewN | apply below_drew1 | refine below_set ?_ GE125.out | refine below_set ?_ GE126.out) | exact HB.out)) hb); clear BK125; clear BK126; clear HB; have BK125 := n0_; have BK126 := n1_; have HB := n2_; clear n0_ n1_ n2_; (try clear hb); (try clear hb2); (try clear hk); (try clear hi); have hcz18_0 : w17.cell? ⟨gb126, 0, none⟩ = some (.int .i64 0) := (blk_cell BK126.out 0).trans rfl; have hcz18_1 : w17.cell? ⟨gb126, 1, none⟩ = some (.int .i64 0) := (blk_cell BK126.out 1).trans rfl; have hcz18_2 : w17.cell? ⟨gb126, 2, none⟩ = some (.int .i64 0) := (blk_cell BK126.out 2).trans rfl; have hcz18_3 : w17.cell? ⟨gb126, 3, none⟩ = some (.int .i64 0) := (blk_cell BK126.out 3).trans rfl; have hcz18_4 : w17.cell? ⟨gb126, 4, none⟩ = some (.int .i64 0) := (blk_cell BK126.out 4).trans rfl; have hcz18_5 : w17.cell? ⟨gb126, 5, none⟩ = some (.int .i64 0) := (blk_cell BK126.out 5).trans rfl; have hcz18_6 : w17.cell? ⟨gb126, 6, none⟩ = some (.int .i64 0) := (blk_cell BK126.out 6).trans rfl; have hfz18_0 := blk_frozen BK126.out 0; have hfz18_1 := blk_frozen BK126.out 1; have hfz18_2 := blk_frozen BK126.out 2; have hfz18_3 := blk_frozen BK126.out 3; have hfz18_4 := blk_frozen BK126.out 4; have hfz18_5 := blk_frozen BK126.out 5; have hfz18_6 := blk_frozen BK126.out 6))
   refine bodyPost_ret (results_ct rfl _ _ gb126 23 #[.int .i64 0, .int .i64 0, .int .i64 0, .int .i64 0, .int .i64 0, .int .i64 0, .int .i64 0] (0, 0) _ rfl (by (with_reducible repeat first | refine blk_drewN ?_ _ | refine blk_alloc ?_ _); refine blk_put (cs := #[.int .i64 0, .int .i64 0, .int .i64 0, .int .i64 0, .int .i64 0, .int .i64 0, .int .i64 0]) ?_ 6 _ rfl; (with_reducible repeat first | refine blk_drewN ?_ _ | refine blk_alloc ?_ _); refine blk_put (cs := #[.int .i64 0, .int .i64 0, .int .i64 0, .int .i64 0, .int .i64 0, .int .i64 0, .int .i64 0]) ?_ 5 _ rfl; (with_reducible repeat first | refine blk_drewN ?_ _ | refine blk_alloc ?_ _); refine blk_put (cs := #[.int .i64 0, .int .i64 0, .int .i64 0, .int .i64 0, .int .i64 0, .int .i64 0, .int .i64 0]) ?_ 4 _ rfl; (with_reducible repeat first | refine blk_drewN ?_ _ | refine blk_alloc ?_ _); refine blk_put (cs := #[.int .i64 0, .int .i64 0, .int .i64 0, .int .i64 0, .int .i64 0, .int .i64 0, .int .i64 0]) ?_ 3 _ rfl; (with_reducible repeat first | refine blk_drewN ?_ _ | refine blk_alloc ?_ _); refine blk_put (cs := #[.int .i64 0, .int .i64 0, .int .i64 0, .int .i64 0, .int .i64 0, .int .i64 0, .int .i64 0]) ?_ 2 _ rfl; (with_reducible repeat first | refine blk_drewN ?_ _ | refine blk_alloc ?_ _); refine blk_put (cs := #[.int .i64 0, .int .i64 0, .int .i64 0, .int .i64 0, .int .i64 0, .int .i64 0, .int .i64 0]) ?_ 1 _ rfl; (with_reducible repeat first | refine blk_drewN ?_ _ | refine blk_alloc ?_ _); refine blk_put (cs := #[.int .i64 0, .int .i64 0, .int .i64 0, .int .i64 0, .int .i64 0, .int .i64 0, .int .i64 0]) ?_ 0 _ rfl; (with_reducible repeat first | refine blk_drewN ?_ _ | refine blk_alloc ?_ _); exact BK126.out) Tryd.underlying23 rfl (by kernel_rfl)) rfl ?_
   exact ⟨by first | rfl | (simp [errW_none, errW_some] <;> rfl) | (simp [*, errW_none, errW_some] <;> rfl), by repeat (first | (with_reducible first | exact HB.out | apply below_alloc | apply pw_below_drewN | apply below_drew1 | refine below_set ?_ GE125.out | refine below_set ?_ GE126.out) | exact HB.out)⟩
 ·replace c3 := Bool.eq_false_iff.mpr c3
  subst c3
  have H1 : (some (0, 0, 0, 0, 0, 0, 0, 20)) = some (r1, r2, r3, r4, r5, r6, r7, r8) := by rw [if_neg (show ¬ (false = true) by decide)] at H; exact H
  clear H
  have H := H1
  clear H1
  simp only [Option.some.injEq, Prod.mk.injEq] at H
  obtain ⟨rfl, rfl, rfl, rfl, rfl, rfl, rfl, rfl⟩ := H
  go_enter Tryd.func60, Tryd.ntmps60
  go_wp2_with (first | ((with_reducible refine gate_dst (N := 2) rfl ?_); refine box_event ?hg (N := 2) ?hd (cs := #[.int .i64 a0_0, .int .i64 a0_1, .int .i64 a0_2, .int .i64 a0_3, .int .i64 a0_4, .int .i64 a0_5, .int .i64 a0_6]) (t := 23) ?hr ?_; (case hd => rfl); (case hg => rfl); (case hr => first | (go_simp; done) | (go_simp; rfl)); intro gb125 hg w19 hbox hb; have n0_ := Aside0.mk (below_step (by repeat (first | (with_reducible first | exact HB.out | apply below_alloc | apply pw_below_drewN | apply below_drew1) | exact HB.out)) hb); have n1_ := Aside0.mk (hbox); have n2_ := Aside0.mk ((by rw [hg]; exact (below_size (by repeat (first | (with_reducible first | exact HB.out | apply below_alloc | apply pw_below_drewN | apply below_drew1) | exact HB.out))) : w.heap.size ≤ gb125)); have n3_ := Aside0.mk ((by rw [hg]; exact (below_size (by repeat (first | (with_reducible first | exact HB.out | apply below_alloc | apply pw_below_drewN | apply below_drew1) | exact HB.out))) : w.heap.size ≤ gb125)); clear HB; have HB := n0_; have BK125 := n1_; have GW125 := n2_; have GE125 := n3_; clear n0_ n1_ n2_ n3_; clear hb hbox hg) | ((with_reducible refine gate_dst (N := 4) rfl ?_); refine box_event ?hg (N := 4) ?hd (cs := #[.int .i64 0, .int .i64 0, .int .i64 0, .int .i64 0, .int .i64 0, .int .i64 0, .int .i64 0]) (t := 23) ?hr ?_; (case hd => rfl); (case hg => rfl); (case hr => first | (go_simp; done) | (go_simp; rfl)); intro gb126 hg w20 hbox hb; have n0_ := Aside0.mk (blk_below (g := gb125) (o := .cells #[.int .i64 a0_0, .int .i64 a0_1, .int .i64 a0_2, .int .i64 a0_3, .int .i64 a0_4, .int .i64 a0_5, .int .i64 a0_6] 23 (0, 0)) (by (with_reducible repeat first | refine blk_drewN ?_ _ | refine blk_alloc ?_ _); exact BK125.out) hb); have n1_ := Aside0.mk (below_step (by repeat (first | (with_reducible first | exact HB.out | apply below_alloc | apply pw_below_drewN | apply below_drew1 | refine below_set ?_ GE125.out) | exact HB.out)) hb); have n2_ := Aside0.mk (hbox); have n3_ := Aside0.mk ((by rw [hg]; exact (below_size (by repeat (first | (with_reducible first | exact HB.out | apply below_alloc | apply pw_below_drewN | apply below_drew1 | refine below_set ?_ GE125.out) | exact HB.out))) : w.heap.size ≤ gb126)); have n4_ := Aside0.mk ((by rw [hg]; exact (below_size (by repeat (first | (with_reducible first | exact HB.out | apply below_alloc | apply pw_below_drewN | apply below_drew1 | refine below_set ?_ GE125.out) | exact HB.out))) : w.heap.size ≤ gb126)); have n5_ := Aside0.mk ((by rw [hg]; exact Nat.ne_of_lt (blk_lt (g := gb125) (o := .cells #[.int .i64 a0_0, .int .i64 a0_1, .int .i64 a0_2, .int .i64 a0_3, .int .i64 a0_4, .int .i64 a0_5, .int .i64 a0_6] 23 (0, 0)) (by (with_reducible repeat first | refine blk_drewN ?_ _ | refine blk_alloc ?_ _); exact BK125.out)) : gb125 ≠ gb126)); have n6_ := Aside0.mk ((by rw [hg]; exact Nat.ne_of_gt (blk_lt (g := gb125) (o := .cells #[.int .i64 a0_0, .int .i64 a0_1, .int .i64 a0_2, .int .i64 a0_3, .int .i64 a0_4, .int .i64 a0_5, .int .i64 a0_6] 23 (0, 0)) (by (with_reducible repeat first | refine blk_drewN ?_ _ | refine blk_alloc ?_ _); exact BK125.out)) : gb126 ≠ gb125)); clear BK125; clear HB; have BK125 := n0_; have HB := n1_; have BK126 := n2_; have GW126 := n3_; have GE126 := n4_; have NB125_126 := n5_; have NB126_125 := n6_; clear n0_ n1_ n2_ n3_ n4_ n5_ n6_; clear hb hbox hg; have hnb21 := NB126_125.out; have hnc21 := NB125_126.out; have hcz22_0 : w20.cell? ⟨gb126, 0, none⟩ = some (.int .i64 0) := (blk_cell BK126.out 0).trans rfl; have hcz22_1 : w20.cell? ⟨gb126, 1, none⟩ = some (.int .i64 0) := (blk_cell BK126.out 1).trans rfl; have hcz22_2 : w20.cell? ⟨gb126, 2, none⟩ = some (.int .i64 0) := (blk_cell BK126.out 2).trans rfl; have hcz22_3 : w20.cell? ⟨gb126, 3, none⟩ = some (.int .i64 0) := (blk_cell BK126.out 3).trans rfl; have hcz22_4 : w20.cell? ⟨gb126, 4, none⟩ = some (.int .i64 0) := (blk_cell BK126.out 4).trans rfl; have hcz22_5 : w20.cell? ⟨gb126, 5, none⟩ = some (.int .i64 0) := (blk_cell BK126.out 5).trans rfl; have hcz22_6 : w20.cell? ⟨gb126, 6, none⟩ = some (.int .i64 0) := (blk_cell BK126.out 6).trans rfl; have hfz22_0 := blk_frozen BK126.out 0; have hfz22_1 := blk_frozen BK126.out 1; have hfz22_2 := blk_frozen BK126.out 2; have hfz22_3 := blk_frozen BK126.out 3; have hfz22_4 := blk_frozen BK126.out 4; have hfz22_5 := blk_frozen BK126.out 5; have hfz22_6 := blk_frozen BK126.out 6))
  refine bodyPost_ret (results_ct rfl _ _ gb126 23 #[.int .i64 0, .int .i64 0, .int .i64 0, .int .i64 0, .int .i64 0, .int .i64 0, .int .i64 0] (0, 0) _ rfl (by (with_reducible repeat first | refine blk_drewN ?_ _ | refine blk_alloc ?_ _); refine blk_put (cs := #[.int .i64 0, .int .i64 0, .int .i64 0, .int .i64 0, .int .i64 0, .int .i64 0, .int .i64 0]) ?_ 6 _ rfl; (with_reducible repeat first | refine blk_drewN ?_ _ | refine blk_alloc ?_ _); refine blk_put (cs := #[.int .i64 0, .int .i64 0, .int .i64 0, .int .i64 0, .int .i64 0, .int .i64 0, .int .i64 0]) ?_ 5 _ rfl; (with_reducible repeat first | refine blk_drewN ?_ _ | refine blk_alloc ?_ _); refine blk_put (cs := #[.int .i64 0, .int .i64 0, .int .i64 0, .int .i64 0, .int .i64 0, .int .i64 0, .int .i64 0]) ?_ 4 _ rfl; (with_reducible repeat first | refine blk_drewN ?_ _ | refine blk_alloc ?_ _); refine blk_put (cs := #[.int .i64 0, .int .i64 0, .int .i64 0, .int .i64 0, .int .i64 0, .int .i64 0, .int .i64 0]) ?_ 3 _ rfl; (with_reducible repeat first | refine blk_drewN ?_ _ | refine blk_alloc ?_ _); refine blk_put (cs := #[.int .i64 0, .int .i64 0, .int .i64 0, .int .i64 0, .int .i64 0, .int .i64 0, .int .i64 0]) ?_ 2 _ rfl; (with_reducible repeat first | refine blk_drewN ?_ _ | refine blk_alloc ?_ _); refine blk_put (cs := #[.int .i64 0, .int .i64 0, .int .i64 0, .int .i64 0, .int .i64 0, .int .i64 0, .int .i64 0]) ?_ 1 _ rfl; (with_reducible repeat first | refine blk_drewN ?_ _ | refine blk_alloc ?_ _); refine blk_put (cs := #[.int .i64 0, .int .i64 0, .int .i64 0, .int .i64 0, .int .i64 0, .int .i64 0, .int .i64 0]) ?_ 0 _ rfl; (with_reducible repeat first | refine blk_drewN ?_ _ | refine blk_alloc ?_ _); exact BK126.out) Tryd.underlying23 rfl (by kernel_rfl)) rfl ?_
  exact ⟨by first | rfl | (simp [errW_none, errW_some] <;> rfl) | (simp [*, errW_none, errW_some] <;> rfl), by repeat (first | (with_reducible first | exact HB.out | apply below_alloc | apply pw_below_drewN | apply below_drew1 | refine below_set ?_ GE125.out | refine below_set ?_ GE126.out) | exact HB.out)⟩
end Go.Proofs.YtjlchnmpebdggaaDoor.Mo
end
section
namespace Go.Proofs.YtjlchnmpebdggaaDoor.Mo
open Go.RowKit Go.Proofs.YtjlchnmpebdggaaDoorW.PrintWords
theorem digitsP_range (s : ByteArray) : 0 ≤ (digitsP s).1 ∧ (digitsP s).1 < 10000 := by
  unfold digitsP
  split
  · rename_i h
    have := dval_bound _ h.2.2
    have h4 : (10 : Int) ^ s.data.toList.length ≤ 10 ^ 4 := by
      rw [toList_len]
      have h4 : s.size = 1 ∨ s.size = 2 ∨ s.size = 3 ∨ s.size = 4 := by omega
      rcases h4 with h | h | h | h <;> rw [h] <;> decide
    exact ⟨this.1, by have := this.2; omega⟩
  · exact ⟨by decide, by decide⟩
def belowP (s : ByteArray) (most : Int) : Int × Bool := ((digitsP s).1, (digitsP s).2 && (decide (s.size = 2) && decide ((digitsP s).1 ≤ most)))
theorem below_f (k : Nat) (hk : 7 ≤ k) (s : ByteArray) (most : Int) : moment_below.f k s most = some (belowP s most) := by
  unfold moment_below.f belowP
  rw [digits_f k hk]
  simp only [Option.bind_some]
  cases h : (digitsP s).2 with
  | false => rw [if_neg (by simp)]; rfl
  | true =>
    rw [if_pos rfl]
    by_cases h2 : s.size = 2
    · rw [if_pos (by omega)]
      simp [h2]
    · rw [if_neg (by omega)]
      simp [h2]
def zoneT (s : ByteArray) : Int × Bool :=
  if s.size = 5 ∧ (bt s 0 = 43 ∨ bt s 0 = 45) then
    ((if bt s 0 = 45 then -(60 * (belowP (s.extract 1 3) 23).1 + (belowP (s.extract 3 5) 59).1) else 60 * (belowP (s.extract 1 3) 23).1 + (belowP (s.extract 3 5) 59).1),
      (belowP (s.extract 1 3) 23).2 && (belowP (s.extract 3 5) 59).2)
  else (0, false)
theorem belowP_range (s : ByteArray) (m : Int) : 0 ≤ (belowP s m).1 ∧ (belowP s m).1 < 10000 := by
  unfold belowP; exact digitsP_range s
theorem wrap_small (n : Int) (h0 : -1000000 ≤ n) (h1 : n ≤ 1000000) : wrap64 n = n := IntWalk.wrap64_in _ ⟨by omega, by omega⟩
theorem zone_f (k : Nat) (hk : 10 ≤ k) (s : ByteArray) : moment_zone.f k s = some (zoneT s) := by
  obtain ⟨k, rfl⟩ : ∃ m, k = m + 1 := ⟨k - 1, by omega⟩
  unfold moment_zone.f zoneT
  by_cases h5 : s.size = 5
  · have e35 : s.extract 3 s.size = s.extract 3 5 := by rw [h5]
    have r1 := belowP_range (s.extract 1 3) 23
    have r2 := belowP_range (s.extract 3 5) 59
    have f1 := below_f k (by omega) (s.extract 1 3) 23
    have f2 := below_f k (by omega) (s.extract 3 5) 59
    have hj : moment_zone.j0 (k + 1) s false = some ((if bt s 0 = 45 then -(60 * (belowP (s.extract 1 3) 23).1 + (belowP (s.extract 3 5) 59).1) else 60 * (belowP (s.extract 1 3) 23).1 + (belowP (s.extract 3 5) 59).1),
        (belowP (s.extract 1 3) 23).2 && (belowP (s.extract 3 5) 59).2) := by
      generalize belowP (s.extract 1 3) 23 = A at *
      generalize belowP (s.extract 3 5) 59 = B at *
      obtain ⟨H, hb⟩ := A
      obtain ⟨M, mb⟩ := B
      simp only at r1 r2
      rw [moment_zone.j0, if_neg (by simp), if_pos (by omega), if_pos (by omega), e35, f1, f2]
      simp only [Option.bind_some]
      rw [wrap_small (60 * H) (by omega) (by omega), wrap_small (60 * H + M) (by omega) (by omega), wrap_small (-(60 * H + M)) (by omega) (by omega), if_pos (by omega)]
      by_cases h45 : bt s 0 = 45
      · rw [if_pos h45, if_pos h45]
        cases hb <;> simp
      · rw [if_neg h45, if_neg h45]
        cases hb <;> simp
    rw [if_pos (by omega), if_pos (by omega)]
    by_cases h43 : bt s 0 = 43
    · rw [if_pos h43, hj, if_pos (show s.size = 5 ∧ (bt s 0 = 43 ∨ bt s 0 = 45) from ⟨h5, .inl h43⟩)]
    · rw [if_neg h43]
      by_cases h45 : bt s 0 = 45
      · have e : (bt s 0 != 45) = false := by rw [bne_eq_false_iff_eq]; exact h45
        rw [e, hj, if_pos (show s.size = 5 ∧ (bt s 0 = 43 ∨ bt s 0 = 45) from ⟨h5, .inr h45⟩)]
      · have e : (bt s 0 != 45) = true := by rw [bne_iff_ne]; exact h45
        rw [e, moment_zone.j0, if_pos rfl, if_neg (fun h => h.2.elim h43 h45)]
  · rw [if_neg (by omega), moment_zone.j0, if_pos rfl, if_neg (fun h => h5 h.1)]
end Go.Proofs.YtjlchnmpebdggaaDoor.Mo
end
section
namespace Go.Proofs.YtjlchnmpebdggaaDoor.Mo
open Go.RowKit Go.Proofs.YtjlchnmpebdggaaDoorW.PrintWords
def zoneCP (q : St) : Int × Bool := if q.2.1 = 3 then zoneT q.2.2 else if q.2.1 = 1 then (zoneL (upperP q.2.2).data.toList, true) else (0, true)
def zoneCS (s : ByteArray) (q : St) : St := if q.2.1 = 3 ∨ q.2.1 = 1 then nx s q else q
set_option maxHeartbeats 1000000 in
theorem zoneC_calls (c t : Nat) (s : ByteArray) (q : St) (w : World) (hs : s.size ≤ 140737488351232) (hi : q.1 ≤ s.size) (hx : q.2.2.size ≤ 140737488351232) (hc : CurS c t s q w) (hcl : c < w.heap.size) :
    Calls Tryd.prog 59 #[.pointer (some ⟨c, 0, none⟩)] w fun e w' => e = .returned (.tuple #[.int .i64 (zoneCP q).1, .bool (zoneCP q).2]) ∧ CurS c t s (zoneCS s q) w' ∧ Turned c w w' := by
  obtain ⟨i, k, x⟩ := q
  obtain ⟨c0, c1, c2, c3, z1, z2, z3⟩ := cur4 hc
  have HC := Lib.hid hc
  clear hc
  have HNX := Lib.hid (fun w h => nx_calls c t s (i, k, x) w hs hi h)
  by_cases hk : k = 3
  · have e1 : zoneCP (i, k, x) = zoneT x := if_pos hk
    have e2 : zoneCS s (i, k, x) = nx s (i, k, x) := if_pos (.inl hk)
    rw [e1, e2]
    have hg : (k == 3) = true := by rw [beq_iff_eq]; exact hk
    have hz := zone_f 10 (by omega) x
    obtain ⟨Z1, Z2, hZ⟩ : ∃ Z1 Z2, zoneT x = (Z1, Z2) := ⟨_, _, rfl⟩
    rw [hZ] at hz ⊢
    generalize nx s (i, k, x) = q1 at *
    dsimp only
    have HZ := Lib.hid hz
    clear e1 e2 hk hx hz hZ
    go_enter Tryd.func59, Tryd.ntmps59
    go_wp2_with (go_at_call 71; refine (moment_zone.calls 10 x Z1 Z2 _ HZ.out).mono ?_; rintro e w1 ⟨rfl, ⟨nd, rfl⟩⟩)
    refine (HNX.out _ (by exact HC.out)).mono ?_
    rintro e w4 ⟨rfl, h1, h2⟩
    have H1 := Lib.hid h1
    have H2 := Lib.hid ((Turned.refl c w).drewN nd |>.trans h2)
    clear h1 h2 c0 c1 c2 c3 z1 z2 z3 HC
    go_wp2
    go_ret2
    exact ⟨rfl, H1.out, H2.out⟩
  · have hg3 : (k == 3) = false := by rw [beq_eq_false_iff_ne]; exact hk
    by_cases hk1 : k = 1
    · have e1 : zoneCP (i, k, x) = (zoneL (upperP x).data.toList, true) := by unfold zoneCP; rw [if_neg hk, if_pos hk1]
      have e2 : zoneCS s (i, k, x) = nx s (i, k, x) := if_pos (.inr hk1)
      rw [e1, e2]
      have hg : (k == 1) = true := by rw [beq_iff_eq]; exact hk1
      generalize nx s (i, k, x) = q1 at *
      dsimp only
      have hx' : x.size ≤ 140737488351232 := hx
      have hus := upperP_size x
      clear e1 e2 hk hk1 hx
      go_enter Tryd.func59, Tryd.ntmps59
      go_wp2_with fail
      go_region_with ((first | (go_at_call 93; refine (named_calls _).mono ?_; rintro e w1 ⟨b, rfl, hm, hb1⟩; have HM := Lib.hid hm; have HB1 := Lib.hid hb1; have d3 := pw_cell_below HB1.out (a := ⟨c, 3, none⟩) (v := .string x) (by first | assumption | go_simp); clear hm hb1) | (go_at_call 94; refine (upper_calls x _ hx').mono ?_; rintro e w2 ⟨rfl, hb2⟩; have HB2 := Lib.hid hb2; clear hb2; have hlk := named_look (HM.out.kept (grown_of_below HB2.out none) (by simp)) (upperP x) (by rw [hus]; omega))))
      all_goals
        go_wp2_with fail
        have hT : Turned c w w2 := by repeat (first | (with_reducible exact Turned.refl c w) | (with_reducible refine Turned.made ?_ HB2.out) | (with_reducible refine Turned.made ?_ HB1.out) | (with_reducible refine Turned.drew ?_) | (with_reducible refine Turned.drewN ?_ _))
        have hC : CurS c t s (i, k, x) w2 := (HB2.out.block c (Nat.lt_of_lt_of_le (by exact hcl) HB1.out.size)).trans ((HB1.out.block c (by exact hcl)).trans HC.out)
        have HT := Lib.hid hT
        clear hlk hT d3 c0 c1 c2 c3 z1 z2 z3
        refine (HNX.out _ hC).mono ?_
        rintro e w4 ⟨rfl, h1, h2⟩
        have H1 := Lib.hid h1
        have H2 := Lib.hid (HT.out.trans h2)
        clear h1 h2 hC
        go_wp2
        go_ret2
        exact ⟨rfl, H1.out, H2.out⟩
    · have e1 : zoneCP (i, k, x) = (0, true) := by unfold zoneCP; rw [if_neg hk, if_neg hk1]
      have e2 : zoneCS s (i, k, x) = (i, k, x) := if_neg (fun h => h.elim hk hk1)
      rw [e1, e2]
      have hg : (k == 1) = false := by rw [beq_eq_false_iff_ne]; exact hk1
      clear e1 e2 hx
      go_enter Tryd.func59, Tryd.ntmps59
      go_wp2
      go_ret2
      exact ⟨rfl, HC.out, Turned.refl _ _⟩
end Go.Proofs.YtjlchnmpebdggaaDoor.Mo
end
section
namespace Go.Proofs.YtjlchnmpebdggaaDoor.Mo
open Go.RowKit Go.Proofs.YtjlchnmpebdggaaDoorW.PrintWords
def OkQ (s : ByteArray) (q : St) : Prop := q.1 ≤ s.size ∧ q.2.2.size ≤ s.size
theorem okq_nx {s : ByteArray} {q : St} (h : OkQ s q) : OkQ s (nx s q) := ⟨nx_le s q h.1, nx_text s q⟩
theorem okq_week {s : ByteArray} {q : St} (h : OkQ s q) : OkQ s (weekS s q) := by
  unfold weekS; split
  · exact okq_nx (okq_nx h)
  · exact h
theorem okq_second {s : ByteArray} {q : St} (h : OkQ s q) : OkQ s (secondS s q) := by
  unfold secondS; split
  · exact okq_nx (okq_nx h)
  · exact h
def hq1 (s : ByteArray) : St := nx s (0, 0, ⟨#[]⟩)
def hq2 (s : ByteArray) : St := weekS s (hq1 s)
def hq3 (s : ByteArray) : St := nx s (hq2 s)
def hq4 (s : ByteArray) : St := nx s (hq3 s)
def hq5 (s : ByteArray) : St := nx s (hq4 s)
def hq6 (s : ByteArray) : St := nx s (hq5 s)
def hq7 (s : ByteArray) : St := nx s (hq6 s)
def hq8 (s : ByteArray) : St := nx s (hq7 s)
def hq9 (s : ByteArray) : St := secondS s (hq8 s)
def hq10 (s : ByteArray) : St := zoneCS s (hq9 s)
def headB (s : ByteArray) : List Bool := [weekP s (hq1 s), (shortP 99 (hq2 s)).2, (monthP (hq3 s)).2, (yearP (hq4 s)).2, (shortP 23 (hq5 s)).2, (hq6 s).2.1 == 5, (shortP 59 (hq7 s)).2, (secondP s (hq8 s)).2]
def headOk (s : ByteArray) : Bool := ((zoneCP (hq9 s)).2 && (headB s).all id) && (hq10 s).2.1 == 0
def moment_ReadHeader.f (s : ByteArray) : Option (Int × Int × Int × Int × Int × Int × Int × Int) :=
  if s.size ≤ 140737488351232 then moment_read.f (yearP (hq4 s)).1 (monthP (hq3 s)).1 (shortP 99 (hq2 s)).1 (shortP 23 (hq5 s)).1 (shortP 59 (hq7 s)).1 (secondP s (hq8 s)).1 (zoneCP (hq9 s)).1 (headOk s) else none
def zeros7 : Array Value := #[.int .i64 0, .int .i64 0, .int .i64 0, .int .i64 0, .int .i64 0, .int .i64 0, .int .i64 0]
theorem curS_lt {c t : Nat} {s : ByteArray} {q : St} {w : World} (h : CurS c t s q w) : c < w.heap.size := by unfold CurS Cur at h; exact blk_lt h
structure RH (w : World) (R C M K : Nat) (s : ByteArray) (q : St) (mv kv : Array Value) (W : World) : Prop where
  cur : CurS C 61 s q W
  res : W.heap[R]? = some (.cells zeros7 23 (0, 0))
  mom : W.heap[M]? = some (.cells mv 23 (0, 0))
  oks : W.heap[K]? = some (.cells kv 62 (0, 0))
  below : Below w.heap.size w W
  rc : R < C
  cm : C < M
  lt3 : M < K
  wr : w.heap.size ≤ R
theorem RH.turn {w W W' : World} {R C M K : Nat} {s : ByteArray} {q q' : St} {mv kv : Array Value} (h : RH w R C M K s q mv kv W) (hc : CurS C 61 s q' W') (hT : Turned C W W') : RH w R C M K s q' mv kv W' :=
  ⟨hc, (hT.other R (blk_lt h.res) (Nat.ne_of_lt h.rc)).trans h.res, (hT.other M (blk_lt h.mom) (Nat.ne_of_gt h.cm)).trans h.mom, (hT.other K (blk_lt h.oks) (Nat.ne_of_gt (Nat.lt_trans h.cm h.lt3))).trans h.oks,
    hT.below _ _ h.below (Nat.le_of_lt (Nat.lt_of_le_of_lt h.wr h.rc)) h.below.size, h.rc, h.cm, h.lt3, h.wr⟩
theorem RH.mset {w W : World} {R C M K : Nat} {s : ByteArray} {q : St} {mv kv : Array Value} (h : RH w R C M K s q mv kv W) (j : Nat) (v : Value) (mv' : Array Value) (e : mv.setIfInBounds j v = mv') : RH w R C M K s q mv' kv (W.setCell ⟨M, j, none⟩ v) :=
  have h1 := h.rc
  have h2 := h.cm
  have h3 := h.lt3
  have h4 := h.wr
  ⟨(heap_setCell_other _ _ _ _ (Nat.ne_of_lt h2)).trans h.cur, (heap_setCell_other _ _ _ _ (Nat.ne_of_lt (Nat.lt_trans h1 h2))).trans h.res, blk_put h.mom j v e, (heap_setCell_other _ _ _ _ (Nat.ne_of_gt h3)).trans h.oks, h.below.setCell (p := ⟨M, j, none⟩) (by show w.heap.size ≤ M; omega) v, h1, h2, h3, h4⟩
theorem RH.kset {w W : World} {R C M K : Nat} {s : ByteArray} {q : St} {mv kv : Array Value} (h : RH w R C M K s q mv kv W) (j : Nat) (v : Value) (kv' : Array Value) (e : kv.setIfInBounds j v = kv') : RH w R C M K s q mv kv' (W.setCell ⟨K, j, none⟩ v) :=
  have h1 := h.rc
  have h2 := h.cm
  have h3 := h.lt3
  have h4 := h.wr
  ⟨(heap_setCell_other _ _ _ _ (Nat.ne_of_lt (Nat.lt_trans h2 h3))).trans h.cur, (heap_setCell_other _ _ _ _ (Nat.ne_of_lt (Nat.lt_trans h1 (Nat.lt_trans h2 h3)))).trans h.res, (heap_setCell_other _ _ _ _ (Nat.ne_of_lt h3)).trans h.mom, blk_put h.oks j v e, h.below.setCell (p := ⟨K, j, none⟩) (by show w.heap.size ≤ K; omega) v, h1, h2, h3, h4⟩
theorem RH.mcell {w W : World} {R C M K : Nat} {s : ByteArray} {q : St} {mv kv : Array Value} (h : RH w R C M K s q mv kv W) (j : Nat) : W.cell? ⟨M, j, none⟩ = mv[j]? ∧ W.frozen? ⟨M, j, none⟩ = false := ⟨blk_cell h.mom j, blk_frozen h.mom j⟩
theorem RH.kcell {w W : World} {R C M K : Nat} {s : ByteArray} {q : St} {mv kv : Array Value} (h : RH w R C M K s q mv kv W) (j : Nat) : W.cell? ⟨K, j, none⟩ = kv[j]? ∧ W.frozen? ⟨K, j, none⟩ = false := ⟨blk_cell h.oks j, blk_frozen h.oks j⟩
theorem bools_index (w : World) (b0 b1 b2 b3 b4 b5 b6 b7 : Bool) (n : Nat) (h : n < 8) : (Instr.index 62 (.agg #[.bool b0, .bool b1, .bool b2, .bool b3, .bool b4, .bool b5, .bool b6, .bool b7]) (.int .i64 (n : Int))).run Tryd.prog w = .ok (.bool ([b0, b1, b2, b3, b4, b5, b6, b7].getD n false)) w := by
  have : n = 0 ∨ n = 1 ∨ n = 2 ∨ n = 3 ∨ n = 4 ∨ n = 5 ∨ n = 6 ∨ n = 7 := by omega
  rcases this with rfl | rfl | rfl | rfl | rfl | rfl | rfl | rfl <;> (show _ = _; kernel_rfl)
set_option maxHeartbeats 4000000 in
set_option maxRecDepth 100000 in
theorem readHeader_calls (s : ByteArray) (r1 r2 r3 r4 r5 r6 r7 r8 : Int) (w : World) (hs : s.size ≤ 140737488351232)
    (h : moment_read.f (yearP (hq4 s)).1 (monthP (hq3 s)).1 (shortP 99 (hq2 s)).1 (shortP 23 (hq5 s)).1 (shortP 59 (hq7 s)).1 (secondP s (hq8 s)).1 (zoneCP (hq9 s)).1 (headOk s) = some (r1, r2, r3, r4, r5, r6, r7, r8)) (hL : Laid w) :
    Calls Tryd.prog 27 #[.string s] w fun e w' => e = .returned (.tuple #[.agg #[.int .i64 r1, .int .i64 r2, .int .i64 r3, .int .i64 r4, .int .i64 r5, .int .i64 r6, .int .i64 r7], .int .i64 r8]) ∧ Below w.heap.size w w' := by
  have O1 := Lib.hid (show OkQ s (hq1 s) from okq_nx ⟨Nat.zero_le _, Nat.zero_le _⟩)
  have O2 := Lib.hid (show OkQ s (hq2 s) from okq_week O1.out)
  have O3 := Lib.hid (show OkQ s (hq3 s) from okq_nx O2.out)
  have O4 := Lib.hid (show OkQ s (hq4 s) from okq_nx O3.out)
  have O5 := Lib.hid (show OkQ s (hq5 s) from okq_nx O4.out)
  have O6 := Lib.hid (show OkQ s (hq6 s) from okq_nx O5.out)
  have O7 := Lib.hid (show OkQ s (hq7 s) from okq_nx O6.out)
  have O8 := Lib.hid (show OkQ s (hq8 s) from okq_nx O7.out)
  have O9 := Lib.hid (show OkQ s (hq9 s) from okq_second O8.out)
  have HR := Lib.hid h
  have HL := Lib.hid hL
  clear h hL
  go_enter Tryd.func27, Tryd.ntmps27
  go_wp2_with fail
  have hcur : CurS (w.heap.size + 1) 61 s (0, 0, ⟨#[]⟩) ((w.alloc (.cells zeros7 23)).alloc (.cells #[.string s, .int .i64 0, .int .i64 0, .string ⟨#[]⟩] 61)) := by
    have := heap_alloc_new (w.alloc (.cells zeros7 23)) (.cells #[.string s, .int .i64 0, .int .i64 0, .string ⟨#[]⟩] 61)
    rw [show (w.alloc (.cells zeros7 23)).heap.size = w.heap.size + 1 from by simp] at this
    exact this
  refine (nx_calls (w.heap.size + 1) 61 s (0, 0, ⟨#[]⟩) _ hs (Nat.zero_le _) hcur).mono ?_
  rintro e w1 ⟨rfl, hc1, ht1⟩
  have hres1 : w1.heap[w.heap.size]? = some (.cells zeros7 23 (0, 0)) := by
    rw [ht1.other w.heap.size (by simp; omega) (by omega), Below.heap_alloc _ _ _ (by simp)]; exact heap_alloc_new _ _
  have hb1 : Below w.heap.size w w1 := ht1.below _ _ (below_alloc (below_alloc (Below.refl _ w) _) _) (by omega) (by simp; omega)
  have hlt1 := blk_lt hc1
  have HR1 := Lib.hid hres1
  have HB1 := Lib.hid hb1
  have HC1 := Lib.hid hc1
  clear hcur ht1 hres1 hb1 hc1
  go_wp2_with fail
  have H : Hid (RH w w.heap.size (w.heap.size + 1) w1.heap.size (w1.heap.size + 1) s (hq1 s) #[.int .i64 0, .int .i64 0, .int .i64 0, .int .i64 0, .int .i64 0, .int .i64 0, .int .i64 0] #[.bool false, .bool false, .bool false, .bool false, .bool false, .bool false, .bool false, .bool false] ((w1.alloc (.cells #[.int .i64 0, .int .i64 0, .int .i64 0, .int .i64 0, .int .i64 0, .int .i64 0, .int .i64 0] 23)).alloc (.cells #[.bool false, .bool false, .bool false, .bool false, .bool false, .bool false, .bool false, .bool false] 62))) := Lib.hid (by
    refine ⟨?_, ?_, ?_, ?_, below_alloc (below_alloc HB1.out _) _, by omega, by omega, by omega, Nat.le_refl _⟩
    · exact (Below.heap_alloc _ _ _ (by simp; omega)).trans ((Below.heap_alloc _ _ _ hlt1).trans HC1.out)
    · exact (Below.heap_alloc _ _ _ (by simp; omega)).trans ((Below.heap_alloc _ _ _ (by omega)).trans HR1.out)
    · exact (Below.heap_alloc _ _ _ (by simp)).trans (heap_alloc_new _ _)
    · have := heap_alloc_new (w1.alloc (.cells #[.int .i64 0, .int .i64 0, .int .i64 0, .int .i64 0, .int .i64 0, .int .i64 0, .int .i64 0] 23)) (.cells #[.bool false, .bool false, .bool false, .bool false, .bool false, .bool false, .bool false, .bool false] 62)
      rw [show (w1.alloc (.cells #[.int .i64 0, .int .i64 0, .int .i64 0, .int .i64 0, .int .i64 0, .int .i64 0, .int .i64 0] 23)).heap.size = w1.heap.size + 1 from by simp] at this
      exact this)
  clear HR1 HB1 HC1
  generalize (w1.alloc (Obj.cells #[.int .i64 0, .int .i64 0, .int .i64 0, .int .i64 0, .int .i64 0, .int .i64 0, .int .i64 0] 23)).alloc (Obj.cells #[.bool false, .bool false, .bool false, .bool false, .bool false, .bool false, .bool false, .bool false] 62) = W at *
  generalize w.heap.size + 1 = C at *
  generalize w1.heap.size = M at *
  generalize M + 1 = K at *
  refine (week_calls C 61 s (hq1 s) _ hs O1.out.1 (Nat.le_trans O1.out.2 hs) H.out.cur (curS_lt H.out.cur)).mono ?_
  rintro e w2 ⟨rfl, hc, ht⟩
  have H2 := Lib.hid (RH.turn (q' := hq2 s) H.out hc ht)
  clear hc ht H
  obtain ⟨ck, zk⟩ := H2.out.kcell 0
  replace ck : w2.cell? ⟨K, 0, none⟩ = some (.bool false) := ck
  obtain ⟨B0, eB0⟩ : ∃ x, weekP s (hq1 s) = x := ⟨_, rfl⟩
  rw [eB0]
  have EB0 := Lib.hid eB0
  clear eB0
  go_wp2_with fail
  have H := Lib.hid (H2.out.kset 0 (.bool B0) #[.bool B0, .bool false, .bool false, .bool false, .bool false, .bool false, .bool false, .bool false] rfl)
  clear H2 ck zk
  generalize w2.setCell ⟨K, 0, none⟩ (.bool B0) = W at *
  refine (short_calls C 61 s (hq2 s) 99 _ hs O2.out.1 H.out.cur).mono ?_
  rintro e w3 ⟨rfl, hc, ht⟩
  have H3 := Lib.hid (RH.turn (q' := hq3 s) H.out hc ht)
  clear hc ht H
  obtain ⟨cm, zm⟩ := H3.out.mcell 2
  obtain ⟨ck, zk⟩ := H3.out.kcell 1
  replace cm : w3.cell? ⟨M, 2, none⟩ = some (.int .i64 0) := cm
  replace ck : w3.cell? ⟨K, 1, none⟩ = some (.bool false) := ck
  obtain ⟨D, eD⟩ : ∃ x, (shortP 99 (hq2 s)).1 = x := ⟨_, rfl⟩
  obtain ⟨B1, eB1⟩ : ∃ x, (shortP 99 (hq2 s)).2 = x := ⟨_, rfl⟩
  rw [eD, eB1]
  have ED := Lib.hid eD
  have EB1 := Lib.hid eB1
  clear eD eB1
  go_wp2_with fail
  have H := Lib.hid ((H3.out.mset 2 (.int .i64 D) #[.int .i64 0, .int .i64 0, .int .i64 D, .int .i64 0, .int .i64 0, .int .i64 0, .int .i64 0] rfl).kset 1 (.bool B1) #[.bool B0, .bool B1, .bool false, .bool false, .bool false, .bool false, .bool false, .bool false] rfl)
  clear H3 cm zm ck zk
  generalize (w3.setCell ⟨M, 2, none⟩ (.int .i64 D)).setCell ⟨K, 1, none⟩ (.bool B1) = W at *
  refine (month_calls C 61 s (hq3 s) _ hs O3.out.1 (Nat.le_trans O3.out.2 hs) H.out.cur (curS_lt H.out.cur)).mono ?_
  rintro e w4 ⟨rfl, hc, ht⟩
  have H4 := Lib.hid (RH.turn (q' := hq4 s) H.out hc ht)
  clear hc ht H
  obtain ⟨cm, zm⟩ := H4.out.mcell 1
  obtain ⟨ck, zk⟩ := H4.out.kcell 2
  replace cm : w4.cell? ⟨M, 1, none⟩ = some (.int .i64 0) := cm
  replace ck : w4.cell? ⟨K, 2, none⟩ = some (.bool false) := ck
  obtain ⟨Mo, eMo⟩ : ∃ x, (monthP (hq3 s)).1 = x := ⟨_, rfl⟩
  obtain ⟨B2, eB2⟩ : ∃ x, (monthP (hq3 s)).2 = x := ⟨_, rfl⟩
  rw [eMo, eB2]
  have EMo := Lib.hid eMo
  have EB2 := Lib.hid eB2
  clear eMo eB2
  go_wp2_with fail
  have H := Lib.hid ((H4.out.mset 1 (.int .i64 Mo) #[.int .i64 0, .int .i64 Mo, .int .i64 D, .int .i64 0, .int .i64 0, .int .i64 0, .int .i64 0] rfl).kset 2 (.bool B2) #[.bool B0, .bool B1, .bool B2, .bool false, .bool false, .bool false, .bool false, .bool false] rfl)
  clear H4 cm zm ck zk
  generalize (w4.setCell ⟨M, 1, none⟩ (.int .i64 Mo)).setCell ⟨K, 2, none⟩ (.bool B2) = W at *
  refine (year_calls C 61 s (hq4 s) _ hs O4.out.1 H.out.cur).mono ?_
  rintro e w5 ⟨rfl, hc, ht⟩
  have H5 := Lib.hid (RH.turn (q' := hq5 s) H.out hc ht)
  clear hc ht H
  obtain ⟨cm, zm⟩ := H5.out.mcell 0
  obtain ⟨ck, zk⟩ := H5.out.kcell 3
  replace cm : w5.cell? ⟨M, 0, none⟩ = some (.int .i64 0) := cm
  replace ck : w5.cell? ⟨K, 3, none⟩ = some (.bool false) := ck
  obtain ⟨Y, eY⟩ : ∃ x, (yearP (hq4 s)).1 = x := ⟨_, rfl⟩
  obtain ⟨B3, eB3⟩ : ∃ x, (yearP (hq4 s)).2 = x := ⟨_, rfl⟩
  rw [eY, eB3]
  have EY := Lib.hid eY
  have EB3 := Lib.hid eB3
  clear eY eB3
  go_wp2_with fail
  have H := Lib.hid ((H5.out.mset 0 (.int .i64 Y) #[.int .i64 Y, .int .i64 Mo, .int .i64 D, .int .i64 0, .int .i64 0, .int .i64 0, .int .i64 0] rfl).kset 3 (.bool B3) #[.bool B0, .bool B1, .bool B2, .bool B3, .bool false, .bool false, .bool false, .bool false] rfl)
  clear H5 cm zm ck zk
  generalize (w5.setCell ⟨M, 0, none⟩ (.int .i64 Y)).setCell ⟨K, 3, none⟩ (.bool B3) = W at *
  refine (short_calls C 61 s (hq5 s) 23 _ hs O5.out.1 H.out.cur).mono ?_
  rintro e w6 ⟨rfl, hc, ht⟩
  have H6 := Lib.hid (RH.turn (q' := hq6 s) H.out hc ht)
  clear hc ht H
  obtain ⟨cm, zm⟩ := H6.out.mcell 3
  obtain ⟨ck, zk⟩ := H6.out.kcell 4
  replace cm : w6.cell? ⟨M, 3, none⟩ = some (.int .i64 0) := cm
  replace ck : w6.cell? ⟨K, 4, none⟩ = some (.bool false) := ck
  obtain ⟨Hh, eHh⟩ : ∃ x, (shortP 23 (hq5 s)).1 = x := ⟨_, rfl⟩
  obtain ⟨B4, eB4⟩ : ∃ x, (shortP 23 (hq5 s)).2 = x := ⟨_, rfl⟩
  rw [eHh, eB4]
  have EHh := Lib.hid eHh
  have EB4 := Lib.hid eB4
  clear eHh eB4
  go_wp2_with fail
  have H := Lib.hid ((H6.out.mset 3 (.int .i64 Hh) #[.int .i64 Y, .int .i64 Mo, .int .i64 D, .int .i64 Hh, .int .i64 0, .int .i64 0, .int .i64 0] rfl).kset 4 (.bool B4) #[.bool B0, .bool B1, .bool B2, .bool B3, .bool B4, .bool false, .bool false, .bool false] rfl)
  clear H6 cm zm ck zk
  generalize (w6.setCell ⟨M, 3, none⟩ (.int .i64 Hh)).setCell ⟨K, 4, none⟩ (.bool B4) = W at *
  refine (sign_calls C 61 s (hq6 s) 5 _ hs O6.out.1 H.out.cur).mono ?_
  rintro e w7 ⟨rfl, hc, ht⟩
  have H7 := Lib.hid (RH.turn (q' := hq7 s) H.out hc ht)
  clear hc ht H
  obtain ⟨ck, zk⟩ := H7.out.kcell 5
  replace ck : w7.cell? ⟨K, 5, none⟩ = some (.bool false) := ck
  obtain ⟨B5, eB5⟩ : ∃ x, ((hq6 s).2.1 == 5) = x := ⟨_, rfl⟩
  rw [eB5]
  have EB5 := Lib.hid eB5
  clear eB5
  go_wp2_with fail
  have H := Lib.hid (H7.out.kset 5 (.bool B5) #[.bool B0, .bool B1, .bool B2, .bool B3, .bool B4, .bool B5, .bool false, .bool false] rfl)
  clear H7 ck zk
  generalize w7.setCell ⟨K, 5, none⟩ (.bool B5) = W at *
  refine (short_calls C 61 s (hq7 s) 59 _ hs O7.out.1 H.out.cur).mono ?_
  rintro e w8 ⟨rfl, hc, ht⟩
  have H8 := Lib.hid (RH.turn (q' := hq8 s) H.out hc ht)
  clear hc ht H
  obtain ⟨cm, zm⟩ := H8.out.mcell 4
  obtain ⟨ck, zk⟩ := H8.out.kcell 6
  replace cm : w8.cell? ⟨M, 4, none⟩ = some (.int .i64 0) := cm
  replace ck : w8.cell? ⟨K, 6, none⟩ = some (.bool false) := ck
  obtain ⟨Mi, eMi⟩ : ∃ x, (shortP 59 (hq7 s)).1 = x := ⟨_, rfl⟩
  obtain ⟨B6, eB6⟩ : ∃ x, (shortP 59 (hq7 s)).2 = x := ⟨_, rfl⟩
  rw [eMi, eB6]
  have EMi := Lib.hid eMi
  have EB6 := Lib.hid eB6
  clear eMi eB6
  go_wp2_with fail
  have H := Lib.hid ((H8.out.mset 4 (.int .i64 Mi) #[.int .i64 Y, .int .i64 Mo, .int .i64 D, .int .i64 Hh, .int .i64 Mi, .int .i64 0, .int .i64 0] rfl).kset 6 (.bool B6) #[.bool B0, .bool B1, .bool B2, .bool B3, .bool B4, .bool B5, .bool B6, .bool false] rfl)
  clear H8 cm zm ck zk
  generalize (w8.setCell ⟨M, 4, none⟩ (.int .i64 Mi)).setCell ⟨K, 6, none⟩ (.bool B6) = W at *
  refine (second_calls C 61 s (hq8 s) _ hs O8.out.1 H.out.cur).mono ?_
  rintro e w9 ⟨rfl, hc, ht⟩
  have H9 := Lib.hid (RH.turn (q' := hq9 s) H.out hc ht)
  clear hc ht H
  obtain ⟨cm, zm⟩ := H9.out.mcell 5
  obtain ⟨ck, zk⟩ := H9.out.kcell 7
  replace cm : w9.cell? ⟨M, 5, none⟩ = some (.int .i64 0) := cm
  replace ck : w9.cell? ⟨K, 7, none⟩ = some (.bool false) := ck
  obtain ⟨Se, eSe⟩ : ∃ x, (secondP s (hq8 s)).1 = x := ⟨_, rfl⟩
  obtain ⟨B7, eB7⟩ : ∃ x, (secondP s (hq8 s)).2 = x := ⟨_, rfl⟩
  rw [eSe, eB7]
  have ESe := Lib.hid eSe
  have EB7 := Lib.hid eB7
  clear eSe eB7
  go_wp2_with fail
  have H := Lib.hid ((H9.out.mset 5 (.int .i64 Se) #[.int .i64 Y, .int .i64 Mo, .int .i64 D, .int .i64 Hh, .int .i64 Mi, .int .i64 Se, .int .i64 0] rfl).kset 7 (.bool B7) #[.bool B0, .bool B1, .bool B2, .bool B3, .bool B4, .bool B5, .bool B6, .bool B7] rfl)
  clear H9 cm zm ck zk
  generalize (w9.setCell ⟨M, 5, none⟩ (.int .i64 Se)).setCell ⟨K, 7, none⟩ (.bool B7) = W at *
  refine (zoneC_calls C 61 s (hq9 s) _ hs O9.out.1 (Nat.le_trans O9.out.2 hs) H.out.cur (curS_lt H.out.cur)).mono ?_
  rintro e w10 ⟨rfl, hc, ht⟩
  have H10 := Lib.hid (RH.turn (q' := hq10 s) H.out hc ht)
  clear hc ht H
  obtain ⟨cm, zm⟩ := H10.out.mcell 6
  replace cm : w10.cell? ⟨M, 6, none⟩ = some (.int .i64 0) := cm
  obtain ⟨Z, eZ⟩ : ∃ x, (zoneCP (hq9 s)).1 = x := ⟨_, rfl⟩
  obtain ⟨BZ, eBZ⟩ : ∃ x, (zoneCP (hq9 s)).2 = x := ⟨_, rfl⟩
  rw [eZ, eBZ]
  have EZ := Lib.hid eZ
  have EBZ := Lib.hid eBZ
  clear eZ eBZ
  go_upto_region 15 with fail
  have H := Lib.hid (H10.out.mset 6 (.int .i64 Z) #[.int .i64 Y, .int .i64 Mo, .int .i64 D, .int .i64 Hh, .int .i64 Mi, .int .i64 Se, .int .i64 Z] rfl)
  clear H10 cm zm
  generalize w10.setCell ⟨M, 6, none⟩ (.int .i64 Z) = W at *
  go_wp2_with (refine wpList_load_row rfl 62 (.tmp 6) rfl K rfl 62 #[.bool B0, .bool B1, .bool B2, .bool B3, .bool B4, .bool B5, .bool B6, .bool B7] (0, 0) _ H.out.oks Tryd.underlying62 rfl (by kernel_rfl) ?_)
  have hBLs : [B0, B1, B2, B3, B4, B5, B6, B7].length = 8 := rfl
  have HX := Lib.hid (fun (W' : World) (n : Nat) (hn : n < 8) => bools_index W' B0 B1 B2 B3 B4 B5 B6 B7 n hn)
  obtain ⟨BL, hBL⟩ : ∃ BL, BL = [B0, B1, B2, B3, B4, B5, B6, B7] := ⟨_, rfl⟩
  rw [← hBL] at HX hBLs
  have HBL := Lib.hid hBL
  clear hBL
  go_loopw [8, 72] (fun v8 v72 wr => ∃ n : Nat, n ≤ 8 ∧ v72 = .int .i64 n ∧ v8 = .bool (BZ && (BL.take n).all id) ∧ wr = W) (fun _ v72 _ => 8 - (intOf v72).toNat)
  case atStart => exact ⟨0, by omega, rfl, by simp, rfl⟩
  case round =>
    obtain ⟨n, hn, rfl, rfl, rfl⟩ := hrel
    by_cases hlt : n < 8
    · have hix := fun W' => HX.out W' n hlt
      have hsn : Hid ((BZ && (BL.take (n + 1)).all id) = ((BZ && (BL.take n).all id) && BL.getD n false)) := Lib.hid (by
        rw [List.take_succ_eq_append_getElem (by omega), List.all_append, List.getD_eq_getElem?_getD, List.getElem?_eq_getElem (by omega)]
        simp [Bool.and_assoc])
      generalize (BZ && (BL.take n).all id) = p at *
      generalize BL.getD n false = X at *
      clear EB0 EB1 EB2 EB3 EB4 EB5 EB6 EB7 EY EMo ED EHh EMi ESe EZ EBZ O1 O2 O3 O4 O5 O6 O7 O8 O9 HX H HBL HR HL
      cases p with
      | true =>
        go_wp2
        go_roundw
        case rel => exact ⟨n + 1, by omega, by go_num, by rw [hsn.out]; rfl, trivial⟩
        case measure => simp [intOf]; omega
      | false =>
        go_wp2
        go_roundw
        case rel => exact ⟨n + 1, by omega, by go_num, by rw [hsn.out]; rfl, trivial⟩
        case measure => simp [intOf]; omega
    · obtain rfl : n = 8 := by omega
      have hall : BL.take 8 = BL := List.take_of_length_le (by omega)
      have hk := HR.out
      have hhead : headOk s = ((BZ && BL.all id) && (hq10 s).2.1 == 0) := by
        unfold headOk headB
        rw [EBZ.out, EB0.out, EB1.out, EB2.out, EB3.out, EB4.out, EB5.out, EB6.out, EB7.out, ← HBL.out]
      rw [hhead, EY.out, EMo.out, ED.out, EHh.out, EMi.out, ESe.out, EZ.out] at hk
      rw [hall]
      have HK := Lib.hid hk
      clear hk hhead hall hBLs HX
      obtain ⟨⟨c0, c1, c2, c3, c4, c5, c6⟩, _⟩ := cells7 H.out.mom
      obtain ⟨_, _, d2, _, _, _, _⟩ := cur4 H.out.cur
      have hlaid := Lib.hid (laid_below HL.out H.out.below)
      have HBE := Lib.hid H.out.below
      have HRES := Lib.hid H.out.res
      have hRlt := Lib.hid (blk_lt H.out.res)
      generalize (BZ && BL.all id) = right at *
      generalize (hq10 s).2.1 = kd at *
      clear O1 O2 O3 O4 O5 O6 O7 O8 O9 HR HL EY EMo ED EHh EMi ESe EZ EBZ EB0 EB1 EB2 EB3 EB4 EB5 EB6 EB7 HBL H
      cases right with
      | true =>
        have hq : (true && kd == 0) = (kd == 0) := Bool.true_and _
        rw [hq] at HK
        clear hq
        go_wp2_with fail
        go_region_with (go_at_call 60; refine (moment_read.calls Y Mo D Hh Mi Se Z (kd == 0) r1 r2 r3 r4 r5 r6 r7 r8 _ HK.out (laid_below hlaid.out (by repeat (first | (with_reducible exact Below.refl _ _) | apply below_drew | apply pw_below_drewN)))).mono ?_; rintro e w12 ⟨rfl, hb⟩; obtain ⟨⟨x0, x1, x2, x3, x4, x5, x6⟩, fz⟩ := cells7 (show w12.heap[w.heap.size]? = some (.cells #[.int .i64 0, .int .i64 0, .int .i64 0, .int .i64 0, .int .i64 0, .int .i64 0, .int .i64 0] 23 (0, 0)) from (hb.block w.heap.size (by exact hRlt.out)).trans HRES.out); have y0 := fz 0; have y1 := fz 1; have y2 := fz 2; have y3 := fz 3; have y4 := fz 4; have y5 := fz 5; have y6 := fz 6; clear fz; have HB := Lib.hid hb; clear hb)
        all_goals go_wp2
        all_goals
          have hr12 := (show w12.heap[w.heap.size]? = some (.cells #[.int .i64 0, .int .i64 0, .int .i64 0, .int .i64 0, .int .i64 0, .int .i64 0, .int .i64 0] 23 (0, 0)) from (HB.out.block w.heap.size (by exact hRlt.out)).trans HRES.out)
          have hbe : Below w.heap.size w w12 := below_step (by repeat (first | (with_reducible exact HBE.out) | (with_reducible apply below_drew) | (with_reducible apply pw_below_drewN) | exact HBE.out)) HB.out
          exact bodyPost_ret (results_ct rfl _ _ w.heap.size 23 #[.int .i64 r1, .int .i64 r2, .int .i64 r3, .int .i64 r4, .int .i64 r5, .int .i64 r6, .int .i64 r7] (0, 0) _ rfl (set7 hr12 _ _ _ _ _ _ _).1 Tryd.underlying23 rfl (by kernel_rfl)) rfl ⟨rfl, (set7 hr12 _ _ _ _ _ _ _).2 _ _ hbe (Nat.le_refl _)⟩
      | false =>
        have hq : (false && kd == 0) = false := rfl
        rw [hq] at HK
        clear hq
        go_wp2_with fail
        first | (go_region_with (go_at_call 60; refine (moment_read.calls Y Mo D Hh Mi Se Z false r1 r2 r3 r4 r5 r6 r7 r8 _ HK.out (laid_below hlaid.out (by repeat (first | (with_reducible exact Below.refl _ _) | apply below_drew | apply pw_below_drewN)))).mono ?_; rintro e w12 ⟨rfl, hb⟩; obtain ⟨⟨x0, x1, x2, x3, x4, x5, x6⟩, fz⟩ := cells7 (show w12.heap[w.heap.size]? = some (.cells #[.int .i64 0, .int .i64 0, .int .i64 0, .int .i64 0, .int .i64 0, .int .i64 0, .int .i64 0] 23 (0, 0)) from (hb.block w.heap.size (by exact hRlt.out)).trans HRES.out); have y0 := fz 0; have y1 := fz 1; have y2 := fz 2; have y3 := fz 3; have y4 := fz 4; have y5 := fz 5; have y6 := fz 6; clear fz; have HB := Lib.hid hb; clear hb)) | fail
        all_goals go_wp2
        all_goals
          have hr12 := (show w12.heap[w.heap.size]? = some (.cells #[.int .i64 0, .int .i64 0, .int .i64 0, .int .i64 0, .int .i64 0, .int .i64 0, .int .i64 0] 23 (0, 0)) from (HB.out.block w.heap.size (by exact hRlt.out)).trans HRES.out)
          have hbe : Below w.heap.size w w12 := below_step (by repeat (first | (with_reducible exact HBE.out) | (with_reducible apply below_drew) | (with_reducible apply pw_below_drewN) | exact HBE.out)) HB.out
          exact bodyPost_ret (results_ct rfl _ _ w.heap.size 23 #[.int .i64 r1, .int .i64 r2, .int .i64 r3, .int .i64 r4, .int .i64 r5, .int .i64 r6, .int .i64 r7] (0, 0) _ rfl (set7 hr12 _ _ _ _ _ _ _).1 Tryd.underlying23 rfl (by kernel_rfl)) rfl ⟨rfl, (set7 hr12 _ _ _ _ _ _ _).2 _ _ hbe (Nat.le_refl _)⟩
theorem moment_ReadHeader.calls (a0 : ByteArray) (r1 r2 r3 r4 r5 r6 r7 r8 : Int) (w : World) (h : moment_ReadHeader.f a0 = some (r1, r2, r3, r4, r5, r6, r7, r8)) (hL : Laid w) :
    Calls Tryd.prog 27 #[.string a0] w fun e w' => e = .returned (.tuple #[.agg #[.int .i64 r1, .int .i64 r2, .int .i64 r3, .int .i64 r4, .int .i64 r5, .int .i64 r6, .int .i64 r7], .int .i64 r8]) ∧ Below w.heap.size w w' := by
  unfold moment_ReadHeader.f at h
  by_cases hs : a0.size ≤ 140737488351232
  · rw [if_pos hs] at h
    exact readHeader_calls a0 r1 r2 r3 r4 r5 r6 r7 r8 w hs h hL
  · rw [if_neg hs] at h
    exact absurd h (by simp)
end Go.Proofs.YtjlchnmpebdggaaDoor.Mo
end
