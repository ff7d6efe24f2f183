import Derived.Test.YtjlchnmpebdggaaDoorHdr2
import Derived.Test.YtjlchnmpebdggaaDoorHdr3
section
namespace Go.Proofs.YtjlchnmpebdggaaDoor.Mo
open Go.RowKit Go.Proofs.YtjlchnmpebdggaaDoorW.PrintWords Go.Proofs.YtjlchnmpebdggaaDoorW.PrintLast Go.Proofs.YtjlchnmpebdggaaDoorW.PrintMore
attribute [local go_sem] max2_int min2_int max_two min_two max_three min_three max_four min_four   -- for this text's walks alone
set_option linter.unusedVariables false
set_option linter.unusedSimpArgs false
def postbagref2_is.f (l0 : List (S95)) (a1 : Int) (a2 : Int) : Option (Bool) := if a1 < (l0.length : Int) then (if 0 ≤ a1 then (some (((rd_T95 l0 a1).f0) == a2)) else (none)) else (some false)
set_option maxHeartbeats 8000000 in
set_option maxRecDepth 100000 in
theorem postbagref2_is.calls (A0 : Option Addr) (c0 : Nat) (l0 : List (S95)) (a1 : Int) (a2 : Int) (r : Bool) (w : World) (hr0 : Kd.C k95 w A0 l0.length l0) (hc0 : l0.length ≤ c0) (h : postbagref2_is.f l0 a1 a2 = some r) :
  Calls Tryd.prog 102 #[.slice A0 l0.length c0, .int .i64 a1, .int .u8 a2] w fun e w' => e = .returned (.bool r) ∧ Drawn0 w w' := by
 have HR0 := Aside0.mk hr0
 have HC0 := Aside0.mk hc0
 clear hr0 hc0
 have H : (if a1 < (l0.length : Int) then (if 0 ≤ a1 then (some (((rd_T95 l0 a1).f0) == a2)) else (none)) else (some false)) = some r := h
 clear h
 refine (Classical.em (a1 < (l0.length : Int))).elim (fun c4 => ?p4) (fun c4 => ?n4)
 case' p4 =>
  rw [if_pos c4] at H
  have c4b0 : decide (a1 < (l0.length : Int)) = true := decide_eq_true c4
  clear c4
  refine (Classical.em (0 ≤ a1)).elim (fun c5 => ?p5) (fun c5 => ?n5)
  case' p5 =>
   rw [if_pos c5] at H
   have c5b0 : decide (0 ≤ a1) = true := decide_eq_true c5
   clear c5
   obtain rfl := Option.some.inj H
   have p191 : 0 ≤ (a1 : Int) := of_decide_eq_true (by first | (with_reducible assumption) | assumption)
   have q191 : a1 < (l0.length : Int) := of_decide_eq_true (by first | (with_reducible assumption) | assumption)
   obtain ⟨ad191, e191, hx191_0, hx191_1⟩ := at_T95 HR0.out a1 p191 q191
   cases e191
   replace p191 := eq_true p191
   replace q191 := eq_true q191
  case' n5 =>
   rw [if_neg c5] at H
   exact absurd H (by simp)
 case' n4 =>
  rw [if_neg c4] at H
  have c4b0 : decide (a1 < (l0.length : Int)) = false := decide_eq_false c4
  clear c4
  obtain rfl := Option.some.inj H
 all_goals
  go_enter Tryd.func102, Tryd.ntmps102
  go_wp2
  go_ret
  exact ⟨by first | rfl | (simp; done) | (simp [*]; done), by repeat (first | exact Drawn0.refl _ | apply Drawn0.step)⟩
def postbagref2_small.f (k : Nat) (l0 : List (S95)) (a1 : Int) (a2 : Int) : Option (Int × Bool) := (postbagref2_is.f l0 a1 100).bind fun t192 => (if t192 = true then (if 0 ≤ a1 then (if a1 < (l0.length : Int) then (if (((rd_T95 l0 a1).f1).size : Int) > 2 then (some (0, false)) else ((postbagref2_count.f k ((rd_T95 l0 a1).f1)).bind fun bt195 => (some (bt195.1, decide (bt195.1 ≤ a2))))) else (none)) else (none)) else (some (0, false)))
set_option maxHeartbeats 8000000 in
set_option maxRecDepth 100000 in
theorem postbagref2_small.calls (k : Nat) (A0 : Option Addr) (c0 : Nat) (l0 : List (S95)) (a1 : Int) (a2 : Int) (r1 : Int) (r2 : Bool) (w : World) (hr0 : Kd.C k95 w A0 l0.length l0) (hc0 : l0.length ≤ c0) (h : postbagref2_small.f k l0 a1 a2 = some (r1, r2)) :
  Calls Tryd.prog 103 #[.slice A0 l0.length c0, .int .i64 a1, .int .i64 a2] w fun e w' => e = .returned (.tuple #[.int .i64 r1, .bool r2]) ∧ Drawn0 w w' := by
 have HR0 := Aside0.mk hr0
 have HC0 := Aside0.mk hc0
 clear hr0 hc0
 have H : ((postbagref2_is.f l0 a1 100).bind fun t192 => (if t192 = true then (if 0 ≤ a1 then (if a1 < (l0.length : Int) then (if (((rd_T95 l0 a1).f1).size : Int) > 2 then (some (0, false)) else ((postbagref2_count.f k ((rd_T95 l0 a1).f1)).bind fun bt195 => (some (bt195.1, decide (bt195.1 ≤ a2))))) else (none)) else (none)) else (some (0, false)))) = some (r1, r2) := h
 clear h
 replace H := Option.bind_eq_some_iff.mp H
 obtain ⟨t192, A40, H⟩ := H
 replace H : (if t192 = true then (if 0 ≤ a1 then (if a1 < (l0.length : Int) then (if (((rd_T95 l0 a1).f1).size : Int) > 2 then (some (0, false)) else ((postbagref2_count.f k ((rd_T95 l0 a1).f1)).bind fun bt195 => (some (bt195.1, decide (bt195.1 ≤ a2))))) else (none)) else (none)) else (some (0, false))) = some (r1, r2) := H
 have A4 := Aside0.mk A40
 clear A40
 by_cases c5 : t192 = true
 ·subst c5
  have H1 : (if 0 ≤ a1 then (if a1 < (l0.length : Int) then (if (((rd_T95 l0 a1).f1).size : Int) > 2 then (some (0, false)) else ((postbagref2_count.f k ((rd_T95 l0 a1).f1)).bind fun bt195 => (some (bt195.1, decide (bt195.1 ≤ a2))))) else (none)) else (none)) = some (r1, r2) := by rw [if_pos rfl] at H; exact H
  clear H
  have H := H1
  clear H1
  by_cases c6 : 0 ≤ a1
  ·rw [if_pos c6] at H
   have c6b0 : decide (0 ≤ a1) = true := decide_eq_true c6
   clear c6
   by_cases c7 : a1 < (l0.length : Int)
   ·rw [if_pos c7] at H
    have c7b0 : decide (a1 < (l0.length : Int)) = true := decide_eq_true c7
    clear c7
    by_cases c8 : (((rd_T95 l0 a1).f1).size : Int) > 2
    ·rw [if_pos c8] at H
     have c8b0 : decide (2 < (((rd_T95 l0 a1).f1).size : Int)) = true := decide_eq_true c8
     have c8b1 : decide (2 < ((rd_T95 l0 a1).f1).size) = true := decide_eq_true (by omega)
     clear c8
     simp only [Option.some.injEq, Prod.mk.injEq] at H
     obtain ⟨rfl, rfl⟩ := H
     go_enter Tryd.func103, Tryd.ntmps103
     go_wp2_with (first | ((with_reducible refine gate_callee (f := 102) rfl ?_); refine goesL_ (some 12) rfl rfl Tryd.func102 (by kernel_rfl) rfl #[.slice A0 l0.length c0, .int .i64 a1, .int .u8 100] rfl (by (try simp only [List.map_toArray, List.map_cons, List.map_nil]); first | done | rfl) ?_; (with_reducible refine (postbagref2_is.calls _ _ l0 a1 100 true _ ?side1 ?side2 A4.out).mono ?_); (case side1 => repeat (first | exact HR0.out | (with_reducible refine Kd.C_alloc ?_ _) | (with_reducible refine Kd.C_drewN ?_ _) | (with_reducible refine Kd.C_drew ?_))); (case side2 => exact HC0.out); rintro e w' ⟨rfl, ⟨nd, rfl⟩⟩; refine ⟨_, rfl, ?_⟩; have p193 : 0 ≤ (a1 : Int) := of_decide_eq_true (by first | (with_reducible assumption) | assumption); have q193 : a1 < (l0.length : Int) := of_decide_eq_true (by first | (with_reducible assumption) | assumption); obtain ⟨ad193, e193, hx193_0, hx193_1⟩ := at_T95 HR0.out a1 p193 q193; cases e193; replace p193 := eq_true p193; replace q193 := eq_true q193))
     go_ret2
     exact ⟨by first | rfl | (simp; done) | (simp [*]; done), by repeat (first | exact Drawn0.refl _ | apply Drawn0.step)⟩
    ·rw [if_neg c8] at H
     have c8b0 : decide (2 < (((rd_T95 l0 a1).f1).size : Int)) = false := decide_eq_false c8
     have c8b1 : decide (2 < ((rd_T95 l0 a1).f1).size) = false := decide_eq_false (by omega)
     clear c8
     replace H := Option.bind_eq_some_iff.mp H
     obtain ⟨⟨t195, t196⟩, A90, H⟩ := H
     replace H : (some (t195, decide (t195 ≤ a2))) = some (r1, r2) := H
     have A9 := Aside0.mk A90
     clear A90
     simp only [Option.some.injEq, Prod.mk.injEq] at H
     obtain ⟨rfl, rfl⟩ := H
     go_enter Tryd.func103, Tryd.ntmps103
     go_wp2_with (first | ((with_reducible refine gate_callee (f := 102) rfl ?_); refine goesL_ (some 12) rfl rfl Tryd.func102 (by kernel_rfl) rfl #[.slice A0 l0.length c0, .int .i64 a1, .int .u8 100] rfl (by (try simp only [List.map_toArray, List.map_cons, List.map_nil]); first | done | rfl) ?_; (with_reducible refine (postbagref2_is.calls _ _ l0 a1 100 true _ ?side1 ?side2 A4.out).mono ?_); (case side1 => repeat (first | exact HR0.out | (with_reducible refine Kd.C_alloc ?_ _) | (with_reducible refine Kd.C_drewN ?_ _) | (with_reducible refine Kd.C_drew ?_))); (case side2 => exact HC0.out); rintro e w' ⟨rfl, ⟨nd, rfl⟩⟩; refine ⟨_, rfl, ?_⟩; have p193 : 0 ≤ (a1 : Int) := of_decide_eq_true (by first | (with_reducible assumption) | assumption); have q193 : a1 < (l0.length : Int) := of_decide_eq_true (by first | (with_reducible assumption) | assumption); obtain ⟨ad193, e193, hx193_0, hx193_1⟩ := at_T95 HR0.out a1 p193 q193; cases e193; replace p193 := eq_true p193; replace q193 := eq_true q193; have p194 : 0 ≤ (a1 : Int) := of_decide_eq_true (by first | (with_reducible assumption) | assumption); have q194 : a1 < (l0.length : Int) := of_decide_eq_true (by first | (with_reducible assumption) | assumption); obtain ⟨ad194, e194, hx194_0, hx194_1⟩ := at_T95 HR0.out a1 p194 q194; obtain rfl : ad193 = ad194 := (by injection e194); replace p194 := eq_true p194; replace q194 := eq_true q194) | ((with_reducible refine gate_callee (f := 75) rfl ?_); refine goesL_ (some 29) rfl rfl Tryd.func75 (by kernel_rfl) rfl #[.string ((rd_T95 l0 a1).f1)] rfl (by (try simp only [List.map_toArray, List.map_cons, List.map_nil]); first | done | rfl) ?_; (with_reducible refine (postbagref2_count.calls k ((rd_T95 l0 a1).f1) t195 t196 _ A9.out).mono ?_); rintro e w' ⟨rfl, ⟨nd, rfl⟩⟩; refine ⟨_, rfl, ?_⟩))
     go_ret2
     exact ⟨by first | rfl | (simp; done) | (simp [*]; done), by repeat (first | exact Drawn0.refl _ | apply Drawn0.step)⟩
   ·rw [if_neg c7] at H
    exact absurd H (by simp)
  ·rw [if_neg c6] at H
   exact absurd H (by simp)
 ·replace c5 := Bool.eq_false_iff.mpr c5
  subst c5
  have H1 : (some (0, false)) = some (r1, r2) := by rw [if_neg (show ¬ (false = true) by decide)] at H; exact H
  clear H
  have H := H1
  clear H1
  simp only [Option.some.injEq, Prod.mk.injEq] at H
  obtain ⟨rfl, rfl⟩ := H
  go_enter Tryd.func103, Tryd.ntmps103
  go_wp2_with (first | ((with_reducible refine gate_callee (f := 102) rfl ?_); refine goesL_ (some 12) rfl rfl Tryd.func102 (by kernel_rfl) rfl #[.slice A0 l0.length c0, .int .i64 a1, .int .u8 100] rfl (by (try simp only [List.map_toArray, List.map_cons, List.map_nil]); first | done | rfl) ?_; (with_reducible refine (postbagref2_is.calls _ _ l0 a1 100 false _ ?side1 ?side2 A4.out).mono ?_); (case side1 => repeat (first | exact HR0.out | (with_reducible refine Kd.C_alloc ?_ _) | (with_reducible refine Kd.C_drewN ?_ _) | (with_reducible refine Kd.C_drew ?_))); (case side2 => exact HC0.out); rintro e w' ⟨rfl, ⟨nd, rfl⟩⟩; refine ⟨_, rfl, ?_⟩))
  go_ret2
  exact ⟨by first | rfl | (simp; done) | (simp [*]; done), by repeat (first | exact Drawn0.refl _ | apply Drawn0.step)⟩
mutual
def postbagref2_years.j0 : Nat → List (S95) → Int → Bool → Option (Int × Bool)
 | 0, _, _, _ => none
 | k + 1, x0, x1, x29 => if x29 = true then (some (0, false)) else (if 0 ≤ x1 then (if x1 < (x0.length : Int) then ((postbagref2_count.f k ((rd_T95 x0 x1).f1)).bind fun bt201 => (if (((rd_T95 x0 x1).f1).size : Int) = 2 then (postbagref2_years.j1 k x0 x1 bt201.1 (decide (bt201.1 < 50))) else (postbagref2_years.j1 k x0 x1 bt201.1 false))) else (none)) else (none))
def postbagref2_years.j1 : Nat → List (S95) → Int → Int → Bool → Option (Int × Bool)
 | 0, _, _, _, _ => none
 | k + 1, x0, x1, x6, x39 => if x39 = true then (some (wrap64 (x6 + 2000), true)) else (if 0 ≤ x1 then (if x1 < (x0.length : Int) then (if (((rd_T95 x0 x1).f1).size : Int) < 4 then (some (wrap64 (x6 + 1900), true)) else (some (x6, true))) else (none)) else (none))
end
def postbagref2_years.f (k : Nat) (l0 : List (S95)) (a1 : Int) : Option (Int × Bool) := (postbagref2_is.f l0 a1 100).bind fun t197 => (if t197 = true then (if 0 ≤ a1 then (if a1 < (l0.length : Int) then (if (((rd_T95 l0 a1).f1).size : Int) < 2 then (postbagref2_years.j0 k l0 a1 true) else (postbagref2_years.j0 k l0 a1 (decide ((((rd_T95 l0 a1).f1).size : Int) > 4)))) else (none)) else (none)) else (postbagref2_years.j0 k l0 a1 true))
set_option maxHeartbeats 8000000 in
set_option maxRecDepth 100000 in
theorem postbagref2_years.calls (k : Nat) (A0 : Option Addr) (c0 : Nat) (l0 : List (S95)) (a1 : Int) (r1 : Int) (r2 : Bool) (w : World) (hr0 : Kd.C k95 w A0 l0.length l0) (hc0 : l0.length ≤ c0) (h : postbagref2_years.f k l0 a1 = some (r1, r2)) :
  Calls Tryd.prog 104 #[.slice A0 l0.length c0, .int .i64 a1] w fun e w' => e = .returned (.tuple #[.int .i64 r1, .bool r2]) ∧ Drawn0 w w' := by
 have HR0 := Aside0.mk hr0
 have HC0 := Aside0.mk hc0
 clear hr0 hc0
 have H : ((postbagref2_is.f l0 a1 100).bind fun t197 => (if t197 = true then (if 0 ≤ a1 then (if a1 < (l0.length : Int) then (if (((rd_T95 l0 a1).f1).size : Int) < 2 then (postbagref2_years.j0 k l0 a1 true) else (postbagref2_years.j0 k l0 a1 (decide ((((rd_T95 l0 a1).f1).size : Int) > 4)))) else (none)) else (none)) else (postbagref2_years.j0 k l0 a1 true))) = some (r1, r2) := h
 clear h
 have HC3 := Aside0.mk H
 clear H
 go_enter Tryd.func104, Tryd.ntmps104
 go_upto_region 1 with (fail)
 go_cut [29] (fun v29 wc => ∃ (kq : Nat) (x29_2 : Bool), v29 = .bool x29_2 ∧ Aside0 (postbagref2_years.j0 kq l0 a1 x29_2 = some (r1, r2)) ∧ Aside0 (kq ≤ k) ∧ Drawn0 w wc)
 case first =>
  have H := HC3.out
  clear HC3
  replace H := Option.bind_eq_some_iff.mp H
  obtain ⟨t197, A40, H⟩ := H
  replace H : (if t197 = true then (if 0 ≤ a1 then (if a1 < (l0.length : Int) then (if (((rd_T95 l0 a1).f1).size : Int) < 2 then (postbagref2_years.j0 k l0 a1 true) else (postbagref2_years.j0 k l0 a1 (decide ((((rd_T95 l0 a1).f1).size : Int) > 4)))) else (none)) else (none)) else (postbagref2_years.j0 k l0 a1 true)) = some (r1, r2) := H
  have A4 := Aside0.mk A40
  clear A40
  by_cases c5 : t197 = true
  ·subst c5
   have H1 : (if 0 ≤ a1 then (if a1 < (l0.length : Int) then (if (((rd_T95 l0 a1).f1).size : Int) < 2 then (postbagref2_years.j0 k l0 a1 true) else (postbagref2_years.j0 k l0 a1 (decide ((((rd_T95 l0 a1).f1).size : Int) > 4)))) else (none)) else (none)) = some (r1, r2) := by rw [if_pos rfl] at H; exact H
   clear H
   have H := H1
   clear H1
   by_cases c6 : 0 ≤ a1
   ·rw [if_pos c6] at H
    have c6b0 : decide (0 ≤ a1) = true := decide_eq_true c6
    clear c6
    (first | rw [c6b0] | (simp only [i64_w, i32_w]; rw [c6b0]) | skip)
    by_cases c7 : a1 < (l0.length : Int)
    ·rw [if_pos c7] at H
     have c7b0 : decide (a1 < (l0.length : Int)) = true := decide_eq_true c7
     clear c7
     by_cases c8 : (((rd_T95 l0 a1).f1).size : Int) < 2
     ·rw [if_pos c8] at H
      have c8b0 : decide ((((rd_T95 l0 a1).f1).size : Int) < 2) = true := decide_eq_true c8
      have c8b1 : decide (((rd_T95 l0 a1).f1).size < 2) = true := decide_eq_true (by omega)
      clear c8
      have H' := Aside0.mk H
      clear H
      go_wp2_with (first | ((with_reducible refine gate_callee (f := 102) rfl ?_); refine goesL_ (some 10) rfl rfl Tryd.func102 (by kernel_rfl) rfl #[.slice A0 l0.length c0, .int .i64 a1, .int .u8 100] rfl (by (try simp only [List.map_toArray, List.map_cons, List.map_nil]); first | done | rfl) ?_; (with_reducible refine (postbagref2_is.calls _ _ l0 a1 100 true _ ?side1 ?side2 A4.out).mono ?_); (case side1 => repeat (first | exact HR0.out | (with_reducible refine Kd.C_alloc ?_ _) | (with_reducible refine Kd.C_drewN ?_ _) | (with_reducible refine Kd.C_drew ?_))); (case side2 => exact HC0.out); rintro e w' ⟨rfl, ⟨nd, rfl⟩⟩; refine ⟨_, rfl, ?_⟩; have p198 : 0 ≤ (a1 : Int) := of_decide_eq_true (by first | (with_reducible assumption) | assumption); have q198 : a1 < (l0.length : Int) := of_decide_eq_true (by first | (with_reducible assumption) | assumption); obtain ⟨ad198, e198, hx198_0, hx198_1⟩ := at_T95 HR0.out a1 p198 q198; cases e198; replace p198 := eq_true p198; replace q198 := eq_true q198))
      go_meet
      case rel => exact ⟨_, (true), (by first | rfl | (simp; done) | (simp [*]; done)), H', ⟨by first | omega | exact Nat.le_refl _⟩, by repeat (first | exact Drawn0.refl _ | apply Drawn0.step)⟩
     ·rw [if_neg c8] at H
      have c8b0 : decide ((((rd_T95 l0 a1).f1).size : Int) < 2) = false := decide_eq_false c8
      have c8b1 : decide (((rd_T95 l0 a1).f1).size < 2) = false := decide_eq_false (by omega)
      clear c8
      have H' := Aside0.mk H
      clear H
      go_wp2_with (first | ((with_reducible refine gate_callee (f := 102) rfl ?_); refine goesL_ (some 10) rfl rfl Tryd.func102 (by kernel_rfl) rfl #[.slice A0 l0.length c0, .int .i64 a1, .int .u8 100] rfl (by (try simp only [List.map_toArray, List.map_cons, List.map_nil]); first | done | rfl) ?_; (with_reducible refine (postbagref2_is.calls _ _ l0 a1 100 true _ ?side1 ?side2 A4.out).mono ?_); (case side1 => repeat (first | exact HR0.out | (with_reducible refine Kd.C_alloc ?_ _) | (with_reducible refine Kd.C_drewN ?_ _) | (with_reducible refine Kd.C_drew ?_))); (case side2 => exact HC0.out); rintro e w' ⟨rfl, ⟨nd, rfl⟩⟩; refine ⟨_, rfl, ?_⟩; have p198 : 0 ≤ (a1 : Int) := of_decide_eq_true (by first | (with_reducible assumption) | assumption); have q198 : a1 < (l0.length : Int) := of_decide_eq_true (by first | (with_reducible assumption) | assumption); obtain ⟨ad198, e198, hx198_0, hx198_1⟩ := at_T95 HR0.out a1 p198 q198; cases e198; replace p198 := eq_true p198; replace q198 := eq_true q198; have p199 : 0 ≤ (a1 : Int) := of_decide_eq_true (by first | (with_reducible assumption) | assumption); have q199 : a1 < (l0.length : Int) := of_decide_eq_true (by first | (with_reducible assumption) | assumption); obtain ⟨ad199, e199, hx199_0, hx199_1⟩ := at_T95 HR0.out a1 p199 q199; obtain rfl : ad198 = ad199 := (by injection e199); replace p199 := eq_true p199; replace q199 := eq_true q199))
      go_meet
      case rel => exact ⟨_, (decide ((((rd_T95 l0 a1).f1).size : Int) > 4)), (by first | rfl | (simp; done) | (simp [*]; done)), H', ⟨by first | omega | exact Nat.le_refl _⟩, by repeat (first | exact Drawn0.refl _ | apply Drawn0.step)⟩
    ·rw [if_neg c7] at H
     exact absurd H (by simp)
   ·rw [if_neg c6] at H
    exact absurd H (by simp)
  ·replace c5 := Bool.eq_false_iff.mpr c5
   subst c5
   have H1 : (postbagref2_years.j0 k l0 a1 true) = some (r1, r2) := by rw [if_neg (show ¬ (false = true) by decide)] at H; exact H
   clear H
   have H := H1
   clear H1
   have H' := Aside0.mk H
   clear H
   go_wp2_with (first | ((with_reducible refine gate_callee (f := 102) rfl ?_); refine goesL_ (some 10) rfl rfl Tryd.func102 (by kernel_rfl) rfl #[.slice A0 l0.length c0, .int .i64 a1, .int .u8 100] rfl (by (try simp only [List.map_toArray, List.map_cons, List.map_nil]); first | done | rfl) ?_; (with_reducible refine (postbagref2_is.calls _ _ l0 a1 100 false _ ?side1 ?side2 A4.out).mono ?_); (case side1 => repeat (first | exact HR0.out | (with_reducible refine Kd.C_alloc ?_ _) | (with_reducible refine Kd.C_drewN ?_ _) | (with_reducible refine Kd.C_drew ?_))); (case side2 => exact HC0.out); rintro e w' ⟨rfl, ⟨nd, rfl⟩⟩; refine ⟨_, rfl, ?_⟩))
   go_meet
   case rel => exact ⟨_, (true), (by first | rfl | (simp; done) | (simp [*]; done)), H', ⟨by first | omega | exact Nat.le_refl _⟩, by repeat (first | exact Drawn0.refl _ | apply Drawn0.step)⟩
 case rest =>
  clear HC3
  try clear c1
  try clear p1
  try clear q1
  try clear hx1
  try clear p2
  try clear c5
  try clear c6
  try clear c6b0
  try clear c7
  try clear c7b0
  try clear c8
  try clear c8b0
  try clear c8b1
  try clear hx198_0
  try clear hx198_1
  try clear hx199_0
  try clear hx199_1
  try clear p198
  try clear p199
  try clear q198
  try clear q199
  obtain ⟨kq, x29_2, rfl, HA, HJ2, ⟨mc2, rfl⟩⟩ := hcut
  cases kq with
  | zero => exact absurd HA.out (by simp [postbagref2_years.j0])
  | succ kj2 =>
   have H := HA.out
   clear HA
   simp only [postbagref2_years.j0] at H
   by_cases c9 : x29_2 = true
   ·subst c9
    have H1 : (some (0, false)) = some (r1, r2) := by rw [if_pos rfl] at H; exact H
    clear H
    have H := H1
    clear H1
    simp only [Option.some.injEq, Prod.mk.injEq] at H
    obtain ⟨rfl, rfl⟩ := H
    go_wp2
    go_ret2
    exact ⟨by first | rfl | (simp; done) | (simp [*]; done), by repeat (first | exact Drawn0.refl _ | apply Drawn0.step)⟩
   ·replace c9 := Bool.eq_false_iff.mpr c9
    subst c9
    have H1 : (if 0 ≤ a1 then (if a1 < (l0.length : Int) then ((postbagref2_count.f kj2 ((rd_T95 l0 a1).f1)).bind fun bt201 => (if (((rd_T95 l0 a1).f1).size : Int) = 2 then (postbagref2_years.j1 kj2 l0 a1 bt201.1 (decide (bt201.1 < 50))) else (postbagref2_years.j1 kj2 l0 a1 bt201.1 false))) else (none)) else (none)) = some (r1, r2) := by rw [if_neg (show ¬ (false = true) by decide)] at H; exact H
    clear H
    have H := H1
    clear H1
    by_cases c10 : 0 ≤ a1
    ·rw [if_pos c10] at H
     have c10b0 : decide (0 ≤ a1) = true := decide_eq_true c10
     clear c10
     by_cases c11 : a1 < (l0.length : Int)
     ·rw [if_pos c11] at H
      have c11b0 : decide (a1 < (l0.length : Int)) = true := decide_eq_true c11
      clear c11
      replace H := Option.bind_eq_some_iff.mp H
      obtain ⟨⟨t201, t202⟩, A120, H⟩ := H
      replace H : (if (((rd_T95 l0 a1).f1).size : Int) = 2 then (postbagref2_years.j1 kj2 l0 a1 t201 (decide (t201 < 50))) else (postbagref2_years.j1 kj2 l0 a1 t201 false)) = some (r1, r2) := H
      have A12 := Aside0.mk A120
      clear A120
      have HC13 := Aside0.mk H
      clear H
      have p200 : 0 ≤ (a1 : Int) := of_decide_eq_true (by first | (with_reducible assumption) | assumption)
      have q200 : a1 < (l0.length : Int) := of_decide_eq_true (by first | (with_reducible assumption) | assumption)
      obtain ⟨ad200, e200, hx200_0, hx200_1⟩ := at_T95 HR0.out a1 p200 q200
      cases e200
      replace p200 := eq_true p200
      replace q200 := eq_true q200
      go_upto_region 4 with (first | ((with_reducible refine gate_callee (f := 75) rfl ?_); refine goesL_ (some 36) rfl rfl Tryd.func75 (by kernel_rfl) rfl #[.string ((rd_T95 l0 a1).f1)] rfl (by (try simp only [List.map_toArray, List.map_cons, List.map_nil]); first | done | rfl) ?_; (with_reducible refine (postbagref2_count.calls kj2 ((rd_T95 l0 a1).f1) t201 t202 _ A12.out).mono ?_); rintro e w' ⟨rfl, ⟨nd, rfl⟩⟩; refine ⟨_, rfl, ?_⟩))
      (try simp only [Act.put, s1_, s2_, s3_])
      go_cut [39] (fun v39 wc => ∃ (kq : Nat) (x39_12 : Bool), v39 = .bool x39_12 ∧ Aside0 (postbagref2_years.j1 kq l0 a1 t201 x39_12 = some (r1, r2)) ∧ Aside0 (kq ≤ kj2) ∧ Drawn0 w wc)
      case first =>
       have H := HC13.out
       clear HC13
       by_cases c14 : (((rd_T95 l0 a1).f1).size : Int) = 2
       ·rw [if_pos c14] at H
        have c14b0 : ((((rd_T95 l0 a1).f1).size : Int) == 2) = true := beq_iff_eq.mpr c14
        have c14b1 : ((((rd_T95 l0 a1).f1).size : Int) != 2) = false := bne_eq_false_iff_eq.mpr c14
        clear c14
        (first | rw [c14b0] | (simp only [i64_w, i32_w]; rw [c14b0]) | skip)
        have H' := Aside0.mk H
        clear H
        have p203 : 0 ≤ (a1 : Int) := of_decide_eq_true (by first | (with_reducible assumption) | assumption)
        have q203 : a1 < (l0.length : Int) := of_decide_eq_true (by first | (with_reducible assumption) | assumption)
        obtain ⟨ad203, e203, hx203_0, hx203_1⟩ := at_T95 HR0.out a1 p203 q203
        obtain rfl : ad200 = ad203 := (by injection e203)
        replace p203 := eq_true p203
        replace q203 := eq_true q203
        go_wp2
        go_meet
        case rel => exact ⟨_, (decide (t201 < 50)), (by first | rfl | (simp; done) | (simp [*]; done)), H', ⟨by have := HJ2.out; first | omega | exact Nat.le_refl _⟩, by repeat (first | exact Drawn0.refl _ | apply Drawn0.step)⟩
       ·rw [if_neg c14] at H
        have c14b0 : ((((rd_T95 l0 a1).f1).size : Int) == 2) = false := beq_eq_false_iff_ne.mpr c14
        have c14b1 : ((((rd_T95 l0 a1).f1).size : Int) != 2) = true := bne_iff_ne.mpr c14
        (first | rw [c14b0] | (simp only [i64_w, i32_w]; rw [c14b0]) | skip)
        have H' := Aside0.mk H
        clear H
        have p203 : 0 ≤ (a1 : Int) := of_decide_eq_true (by first | (with_reducible assumption) | assumption)
        have q203 : a1 < (l0.length : Int) := of_decide_eq_true (by first | (with_reducible assumption) | assumption)
        obtain ⟨ad203, e203, hx203_0, hx203_1⟩ := at_T95 HR0.out a1 p203 q203
        obtain rfl : ad200 = ad203 := (by injection e203)
        replace p203 := eq_true p203
        replace q203 := eq_true q203
        go_wp2
        go_meet
        case rel => exact ⟨_, (false), (by first | rfl | (simp; done) | (simp [*]; done)), H', ⟨by have := HJ2.out; first | omega | exact Nat.le_refl _⟩, by repeat (first | exact Drawn0.refl _ | apply Drawn0.step)⟩
      case rest =>
       clear HC13
       try clear c1
       try clear p1
       try clear q1
       try clear hx1
       try clear c2
       try clear p2
       try clear q2
       try clear hx2
       try clear c5
       try clear c6
       try clear c6b0
       try clear c7
       try clear c7b0
       try clear c8
       try clear c8b0
       try clear c8b1
       try clear c9
       try clear c10
       try clear c10b0
       try clear c11
       try clear c11b0
       try clear c14
       try clear c14b0
       try clear c14b1
       try clear hx198_0
       try clear hx198_1
       try clear hx199_0
       try clear hx199_1
       try clear hx200_0
       try clear hx200_1
       try clear hx203_0
       try clear hx203_1
       try clear p1
       try clear p198
       try clear p199
       try clear p2
       try clear p200
       try clear p203
       try clear q1
       try clear q198
       try clear q199
       try clear q200
       try clear q203
       obtain ⟨kq, x39_12, rfl, HA, HJ12, ⟨mc12, rfl⟩⟩ := hcut
       cases kq with
       | zero => exact absurd HA.out (by simp [postbagref2_years.j1])
       | succ kj12 =>
        have H := HA.out
        clear HA
        simp only [postbagref2_years.j1] at H
        by_cases c15 : x39_12 = true
        ·subst c15
         have H1 : (some (wrap64 (t201 + 2000), true)) = some (r1, r2) := by rw [if_pos rfl] at H; exact H
         clear H
         have H := H1
         clear H1
         simp only [Option.some.injEq, Prod.mk.injEq] at H
         obtain ⟨rfl, rfl⟩ := H
         go_wp2
         go_ret2
         exact ⟨by first | rfl | (simp; done) | (simp [*]; done), by repeat (first | exact Drawn0.refl _ | apply Drawn0.step)⟩
        ·replace c15 := Bool.eq_false_iff.mpr c15
         subst c15
         have H1 : (if 0 ≤ a1 then (if a1 < (l0.length : Int) then (if (((rd_T95 l0 a1).f1).size : Int) < 4 then (some (wrap64 (t201 + 1900), true)) else (some (t201, true))) else (none)) else (none)) = some (r1, r2) := by rw [if_neg (show ¬ (false = true) by decide)] at H; exact H
         clear H
         have H := H1
         clear H1
         by_cases c16 : 0 ≤ a1
         ·rw [if_pos c16] at H
          have c16b0 : decide (0 ≤ a1) = true := decide_eq_true c16
          clear c16
          by_cases c17 : a1 < (l0.length : Int)
          ·rw [if_pos c17] at H
           have c17b0 : decide (a1 < (l0.length : Int)) = true := decide_eq_true c17
           clear c17
           by_cases c18 : (((rd_T95 l0 a1).f1).size : Int) < 4
           ·rw [if_pos c18] at H
            have c18b0 : decide ((((rd_T95 l0 a1).f1).size : Int) < 4) = true := decide_eq_true c18
            have c18b1 : decide (((rd_T95 l0 a1).f1).size < 4) = true := decide_eq_true (by omega)
            clear c18
            simp only [Option.some.injEq, Prod.mk.injEq] at H
            obtain ⟨rfl, rfl⟩ := H
            have p204 : 0 ≤ (a1 : Int) := of_decide_eq_true (by first | (with_reducible assumption) | assumption)
            have q204 : a1 < (l0.length : Int) := of_decide_eq_true (by first | (with_reducible assumption) | assumption)
            obtain ⟨ad204, e204, hx204_0, hx204_1⟩ := at_T95 HR0.out a1 p204 q204
            obtain rfl : ad200 = ad204 := (by injection e204)
            replace p204 := eq_true p204
            replace q204 := eq_true q204
            go_wp2
            go_ret2
            exact ⟨by first | rfl | (simp; done) | (simp [*]; done), by repeat (first | exact Drawn0.refl _ | apply Drawn0.step)⟩
           ·rw [if_neg c18] at H
            have c18b0 : decide ((((rd_T95 l0 a1).f1).size : Int) < 4) = false := decide_eq_false c18
            have c18b1 : decide (((rd_T95 l0 a1).f1).size < 4) = false := decide_eq_false (by omega)
            clear c18
            simp only [Option.some.injEq, Prod.mk.injEq] at H
            obtain ⟨rfl, rfl⟩ := H
            have p204 : 0 ≤ (a1 : Int) := of_decide_eq_true (by first | (with_reducible assumption) | assumption)
            have q204 : a1 < (l0.length : Int) := of_decide_eq_true (by first | (with_reducible assumption) | assumption)
            obtain ⟨ad204, e204, hx204_0, hx204_1⟩ := at_T95 HR0.out a1 p204 q204
            obtain rfl : ad200 = ad204 := (by injection e204)
            replace p204 := eq_true p204
            replace q204 := eq_true q204
            go_wp2
            go_ret2
            exact ⟨by first | rfl | (simp; done) | (simp [*]; done), by repeat (first | exact Drawn0.refl _ | apply Drawn0.step)⟩
          ·rw [if_neg c17] at H
           exact absurd H (by simp)
         ·rw [if_neg c16] at H
          exact absurd H (by simp)
     ·rw [if_neg c11] at H
      exact absurd H (by simp)
    ·rw [if_neg c10] at H
     exact absurd H (by simp)
def postbagref2_letters.l0 : Nat → List ByteArray → List Int → ByteArray → Int → Option (Int)
 | 0, _, _, _, _ => none
 | k + 1, x3, x4, x5, x6 => if x6 < (x3.length : Int) then (if 0 ≤ x6 then (if (rdOf ByteArray.empty x3 x6).toList = x5.toList then (if x6 < (x4.length : Int) then (some (wrap64 ((-60) * (rd x4 x6)))) else (none)) else (postbagref2_letters.l0 k x3 x4 x5 (wrap64 (x6 + 1)))) else (none)) else (some 0)
def postbagref2_letters.f (k : Nat) (a0 : ByteArray) : Option (Int) := (postbagref2_lower.f k a0).bind fun t211 => (postbagref2_letters.l0 k (([(⟨#[101, 115, 116]⟩ : ByteArray), (⟨#[101, 100, 116]⟩ : ByteArray), (⟨#[99, 115, 116]⟩ : ByteArray), (⟨#[99, 100, 116]⟩ : ByteArray), (⟨#[109, 115, 116]⟩ : ByteArray), (⟨#[109, 100, 116]⟩ : ByteArray), (⟨#[112, 115, 116]⟩ : ByteArray), (⟨#[112, 100, 116]⟩ : ByteArray)] : List ByteArray)) (([5, 4, 6, 5, 7, 6, 8, 7] : List Int)) t211 0)
set_option maxHeartbeats 8000000 in
set_option maxRecDepth 100000 in
theorem postbagref2_letters.calls (k : Nat) (a0 : ByteArray) (r : Int) (w : World) (h : postbagref2_letters.f k a0 = some r) :
  Calls Tryd.prog 107 #[.string a0] w fun e w' => e = .returned (.int .i64 r) ∧ Below w.heap.size w w' := by
 have HB := Aside0.mk (Below.refl w.heap.size w)
 have H : ((postbagref2_lower.f k a0).bind fun t211 => (postbagref2_letters.l0 k (([(⟨#[101, 115, 116]⟩ : ByteArray), (⟨#[101, 100, 116]⟩ : ByteArray), (⟨#[99, 115, 116]⟩ : ByteArray), (⟨#[99, 100, 116]⟩ : ByteArray), (⟨#[109, 115, 116]⟩ : ByteArray), (⟨#[109, 100, 116]⟩ : ByteArray), (⟨#[112, 115, 116]⟩ : ByteArray), (⟨#[112, 100, 116]⟩ : ByteArray)] : List ByteArray)) (([5, 4, 6, 5, 7, 6, 8, 7] : List Int)) t211 0)) = some r := h
 clear h
 obtain ⟨y205, hy205⟩ : ∃ y_ : List ByteArray, y_ = (([(⟨#[101, 115, 116]⟩ : ByteArray), (⟨#[101, 100, 116]⟩ : ByteArray), (⟨#[99, 115, 116]⟩ : ByteArray), (⟨#[99, 100, 116]⟩ : ByteArray), (⟨#[109, 115, 116]⟩ : ByteArray), (⟨#[109, 100, 116]⟩ : ByteArray), (⟨#[112, 115, 116]⟩ : ByteArray), (⟨#[112, 100, 116]⟩ : ByteArray)] : List ByteArray)) := ⟨_, rfl⟩
 replace H : ((postbagref2_lower.f k a0).bind fun t211 => (postbagref2_letters.l0 k y205 (([5, 4, 6, 5, 7, 6, 8, 7] : List Int)) t211 0)) = some r := by first | (rw [hy205]; with_reducible exact H) | (have H2_ := (Option.bind_some _ _).symm.trans H; rw [hy205]; with_reducible exact H2_) | (have H2_ := (Option.bind_some _ _).symm.trans H; with_reducible exact H2_) | with_reducible exact H | (rw [hy205]; exact H) | exact H
 have Ny205 := Aside0.mk hy205
 clear hy205
 obtain ⟨y208, hy208⟩ : ∃ y_ : List Int, y_ = (([5, 4, 6, 5, 7, 6, 8, 7] : List Int)) := ⟨_, rfl⟩
 replace H : ((postbagref2_lower.f k a0).bind fun t211 => (postbagref2_letters.l0 k y205 y208 t211 0)) = some r := by first | (rw [hy208]; with_reducible exact H) | (have H2_ := (Option.bind_some _ _).symm.trans H; rw [hy208]; with_reducible exact H2_) | (have H2_ := (Option.bind_some _ _).symm.trans H; with_reducible exact H2_) | with_reducible exact H | (rw [hy208]; exact H) | exact H
 have Ny208 := Aside0.mk hy208
 clear hy208
 replace H := Option.bind_eq_some_iff.mp H
 obtain ⟨t211, A20, H⟩ := H
 replace H : (postbagref2_letters.l0 k y205 y208 t211 0) = some r := H
 have A2 := Aside0.mk A20
 clear A20
 have H' := Aside0.mk H
 clear H
 go_enter Tryd.func107, Tryd.ntmps107
 go_wp2_with (first | ((with_reducible refine gate_dst (N := 7) rfl ?_); refine Kd.R_lit Kd.string _ 9 ?hg (N := 7) ?hd (xs := ([(⟨#[101, 115, 116]⟩ : ByteArray), (⟨#[101, 100, 116]⟩ : ByteArray), (⟨#[99, 115, 116]⟩ : ByteArray), (⟨#[99, 100, 116]⟩ : ByteArray), (⟨#[109, 115, 116]⟩ : ByteArray), (⟨#[109, 100, 116]⟩ : ByteArray), (⟨#[112, 115, 116]⟩ : ByteArray), (⟨#[112, 100, 116]⟩ : ByteArray)] : List ByteArray)) (inner := [.string (⟨#[101, 115, 116]⟩ : ByteArray), .string (⟨#[101, 100, 116]⟩ : ByteArray), .string (⟨#[99, 115, 116]⟩ : ByteArray), .string (⟨#[99, 100, 116]⟩ : ByteArray), .string (⟨#[109, 115, 116]⟩ : ByteArray), .string (⟨#[109, 100, 116]⟩ : ByteArray), .string (⟨#[112, 115, 116]⟩ : ByteArray), .string (⟨#[112, 100, 116]⟩ : ByteArray)]) (ok := fun _ => True) (okp := fun _ => True) ?hr ?hp (fun _ hk => hk) trivial (Below.refl _ _) (Nat.le_refl _) (by simp) ?_; (case hd => rfl); (case hg => rfl); (case hr => first | (go_simp; done) | (go_simp; rfl)); (case hp => exact (Reps.one (show Kd.M Kd.string _ _ _ (⟨#[101, 115, 116]⟩ : ByteArray) [.string (⟨#[101, 115, 116]⟩ : ByteArray)] from rfl) (Reps.one (show Kd.M Kd.string _ _ _ (⟨#[101, 100, 116]⟩ : ByteArray) [.string (⟨#[101, 100, 116]⟩ : ByteArray)] from rfl) (Reps.one (show Kd.M Kd.string _ _ _ (⟨#[99, 115, 116]⟩ : ByteArray) [.string (⟨#[99, 115, 116]⟩ : ByteArray)] from rfl) (Reps.one (show Kd.M Kd.string _ _ _ (⟨#[99, 100, 116]⟩ : ByteArray) [.string (⟨#[99, 100, 116]⟩ : ByteArray)] from rfl) (Reps.one (show Kd.M Kd.string _ _ _ (⟨#[109, 115, 116]⟩ : ByteArray) [.string (⟨#[109, 115, 116]⟩ : ByteArray)] from rfl) (Reps.one (show Kd.M Kd.string _ _ _ (⟨#[109, 100, 116]⟩ : ByteArray) [.string (⟨#[109, 100, 116]⟩ : ByteArray)] from rfl) (Reps.one (show Kd.M Kd.string _ _ _ (⟨#[112, 115, 116]⟩ : ByteArray) [.string (⟨#[112, 115, 116]⟩ : ByteArray)] from rfl) (Reps.one (show Kd.M Kd.string _ _ _ (⟨#[112, 100, 116]⟩ : ByteArray) [.string (⟨#[112, 100, 116]⟩ : ByteArray)] from rfl) (Reps.none _ _)))))))))); intro v206 w3 ho4 hb hg_ hnew_; clear hg_ hnew_; (first | rw [← Ny205.out] at ho4 | (simp only [Int.reduceToNat] at ho4; rw [← Ny205.out] at ho4)); have n0_ := Aside0.mk (Kd.R_lower ho4 (below_size (by repeat (first | (with_reducible first | exact HB.out | apply below_alloc | apply pw_below_drewN | apply below_drew1) | exact HB.out)))); have n1_ := Aside0.mk (below_step (by repeat (first | (with_reducible first | exact HB.out | apply below_alloc | apply pw_below_drewN | apply below_drew1) | exact HB.out)) hb); clear HB; have HO207 := n0_; have HB := n1_; clear n0_ n1_; clear hb ho4) | ((with_reducible refine gate_dst (N := 8) rfl ?_); refine Kd.R_lit (Kd.int .i64) _ 3 ?hg (N := 8) ?hd (xs := ([5, 4, 6, 5, 7, 6, 8, 7] : List Int)) (inner := [.int .i64 5, .int .i64 4, .int .i64 6, .int .i64 5, .int .i64 7, .int .i64 6, .int .i64 8, .int .i64 7]) (ok := fun _ => True) (okp := fun _ => True) ?hr ?hp (fun _ hk => hk) trivial (Below.refl _ _) (Nat.le_refl _) (by simp) ?_; (case hd => rfl); (case hg => rfl); (case hr => first | (go_simp; done) | (go_simp; rfl)); (case hp => exact (Reps.one (show Kd.M (Kd.int .i64) _ _ _ 5 [.int .i64 5] from rfl) (Reps.one (show Kd.M (Kd.int .i64) _ _ _ 4 [.int .i64 4] from rfl) (Reps.one (show Kd.M (Kd.int .i64) _ _ _ 6 [.int .i64 6] from rfl) (Reps.one (show Kd.M (Kd.int .i64) _ _ _ 5 [.int .i64 5] from rfl) (Reps.one (show Kd.M (Kd.int .i64) _ _ _ 7 [.int .i64 7] from rfl) (Reps.one (show Kd.M (Kd.int .i64) _ _ _ 6 [.int .i64 6] from rfl) (Reps.one (show Kd.M (Kd.int .i64) _ _ _ 8 [.int .i64 8] from rfl) (Reps.one (show Kd.M (Kd.int .i64) _ _ _ 7 [.int .i64 7] from rfl) (Reps.none _ _)))))))))); intro v209 w5 ho6 hb hg_ hnew_; clear hg_ hnew_; (first | rw [← Ny208.out] at ho6 | (simp only [Int.reduceToNat] at ho6; rw [← Ny208.out] at ho6)); have n0_ := Aside0.mk (Kd.R_below (by (with_reducible repeat (first | apply Kd.R_alloc | apply Kd.R_drewN | apply Kd.R_drew)); exact HO207.out) hb); have n1_ := Aside0.mk (Kd.R_lower ho6 (below_size (by repeat (first | (with_reducible first | exact HB.out | apply below_alloc | apply pw_below_drewN | apply below_drew1) | exact HB.out)))); have n2_ := Aside0.mk (below_step (by repeat (first | (with_reducible first | exact HB.out | apply below_alloc | apply pw_below_drewN | apply below_drew1) | exact HB.out)) hb); clear HO207; clear HB; have HO207 := n0_; have HO210 := n1_; have HB := n2_; clear n0_ n1_ n2_; clear hb ho6) | ((with_reducible refine gate_callee (f := 106) rfl ?_); refine goesL_ (some 10) rfl rfl Tryd.func106 (by kernel_rfl) rfl #[.string a0] rfl (by (try simp only [List.map_toArray, List.map_cons, List.map_nil]); first | done | rfl) ?_; (with_reducible refine (postbagref2_lower.calls k a0 t211 _ A2.out).mono ?_); rintro e w7 ⟨rfl, hb⟩; refine ⟨_, rfl, ?_⟩; have n0_ := Aside0.mk (Kd.R_below (by (with_reducible repeat (first | apply Kd.R_alloc | apply Kd.R_drewN | apply Kd.R_drew)); exact HO207.out) hb); have n1_ := Aside0.mk (Kd.R_below (by (with_reducible repeat (first | apply Kd.R_alloc | apply Kd.R_drewN | apply Kd.R_drew)); exact HO210.out) hb); have n2_ := Aside0.mk (below_step (by repeat (first | (with_reducible first | exact HB.out | apply below_alloc | apply pw_below_drewN | apply below_drew1) | exact HB.out)) hb); clear HO207; clear HO210; clear HB; have HO207 := n0_; have HO210 := n1_; have HB := n2_; clear n0_ n1_ n2_; (try clear hb); (try clear hb2); (try clear hk); (try clear hi)))
 go_loopg [6] k (fun kq v6 w' => ∃ (x6_1 : Int), v6 = .int .i64 x6_1 ∧ Aside0 (postbagref2_letters.l0 kq y205 y208 t211 x6_1 = some r) ∧ Aside0 (kq ≤ k) ∧ Aside0 (Kd.R Kd.string 9 w' w.heap.size (fun _ => True) v206 y205) ∧ Aside0 (Kd.R (Kd.int .i64) 3 w' w.heap.size (fun _ => True) v209 y208) ∧ Aside0 (Below w.heap.size w w'))
 case atStart => exact ⟨(0), (by first | rfl | (simp; done) | (simp [*]; done)), H', ⟨Nat.le_refl _⟩, ⟨by (with_reducible repeat (first | apply Kd.R_alloc | apply Kd.R_drewN | apply Kd.R_drew)); exact HO207.out⟩, ⟨by (with_reducible repeat (first | apply Kd.R_alloc | apply Kd.R_drewN | apply Kd.R_drew)); exact HO210.out⟩, ⟨by repeat (first | (with_reducible first | exact HB.out | apply below_alloc | apply pw_below_drewN | apply below_drew1) | exact HB.out)⟩⟩
 case round =>
  clear H'
  try clear c1
  try clear p2
  obtain ⟨x6_1, rfl, HA, HK1, HO_3, HO_4, HB⟩ := hrel
  cases gk with
  | zero => exact absurd HA.out (by simp [postbagref2_letters.l0])
  | succ k1 =>
   have H := HA.out
   clear HA
   simp only [postbagref2_letters.l0] at H
   by_cases c8 : x6_1 < (y205.length : Int)
   ·rw [if_pos c8] at H
    have c8b0 : decide (x6_1 < (y205.length : Int)) = true := decide_eq_true c8
    clear c8
    by_cases c9 : 0 ≤ x6_1
    ·rw [if_pos c9] at H
     have c9b0 : decide (0 ≤ x6_1) = true := decide_eq_true c9
     clear c9
     by_cases c10 : (rdOf ByteArray.empty y205 x6_1).toList = t211.toList
     ·rw [if_pos c10] at H
      have c10b0 : ((rdOf ByteArray.empty y205 x6_1).toList == t211.toList) = true := beq_iff_eq.mpr c10
      have c10b1 : ((rdOf ByteArray.empty y205 x6_1).toList != t211.toList) = false := bne_eq_false_iff_eq.mpr c10
      clear c10
      by_cases c11 : x6_1 < (y208.length : Int)
      ·rw [if_pos c11] at H
       have c11b0 : decide (x6_1 < (y208.length : Int)) = true := decide_eq_true c11
       clear c11
       obtain rfl := Option.some.inj H
       obtain ⟨Ao12, co12, eo12⟩ := Kd.R_slice HO_3.out
       subst eo12
       have p212 : 0 ≤ (x6_1 : Int) := of_decide_eq_true (by first | (with_reducible assumption) | assumption)
       have q212 : x6_1 < (y205.length : Int) := of_decide_eq_true (by first | (with_reducible assumption) | assumption)
       obtain ⟨ad212, e212, hx212_0⟩ := Kd.at_string (Kd.R_reads' HO_3.out).2.2 x6_1 p212 q212
       cases e212
       replace p212 := eq_true p212
       replace q212 := eq_true q212
       obtain ⟨Ao13, co13, eo13⟩ := Kd.R_slice HO_4.out
       subst eo13
       have p213 : 0 ≤ (x6_1 : Int) := of_decide_eq_true (by first | (with_reducible assumption) | assumption)
       have q213 : x6_1 < (y208.length : Int) := of_decide_eq_true (by first | (with_reducible assumption) | assumption)
       obtain ⟨ad213, e213, hx213_0⟩ := Kd.at_int (Kd.R_reads' HO_4.out).2.2 x6_1 p213 q213
       cases e213
       replace p213 := eq_true p213
       replace q213 := eq_true q213
       go_wp2
       go_ret
       exact ⟨by first | rfl | (simp [errW_none, errW_some] <;> rfl) | (simp [*, errW_none, errW_some] <;> rfl), by repeat (first | (with_reducible first | exact HB.out | apply below_alloc | apply pw_below_drewN | apply below_drew1) | exact HB.out)⟩
      ·rw [if_neg c11] at H
       exact absurd H (by simp)
     ·rw [if_neg c10] at H
      have c10b0 : ((rdOf ByteArray.empty y205 x6_1).toList == t211.toList) = false := beq_eq_false_iff_ne.mpr c10
      have c10b1 : ((rdOf ByteArray.empty y205 x6_1).toList != t211.toList) = true := bne_iff_ne.mpr c10
      have H' := Aside0.mk H
      clear H
      obtain ⟨Ao14, co14, eo14⟩ := Kd.R_slice HO_3.out
      subst eo14
      have p212 : 0 ≤ (x6_1 : Int) := of_decide_eq_true (by first | (with_reducible assumption) | assumption)
      have q212 : x6_1 < (y205.length : Int) := of_decide_eq_true (by first | (with_reducible assumption) | assumption)
      obtain ⟨ad212, e212, hx212_0⟩ := Kd.at_string (Kd.R_reads' HO_3.out).2.2 x6_1 p212 q212
      cases e212
      replace p212 := eq_true p212
      replace q212 := eq_true q212
      go_wp2
      go_roundg k1
      case measure => have := HK1.out; omega
      case rel => exact ⟨(wrap64 (x6_1 + 1)), (by first | rfl | (simp; done) | (simp [*]; done)), H', ⟨by have := HK1.out; omega⟩, ⟨by (with_reducible repeat (first | apply Kd.R_alloc | apply Kd.R_drewN | apply Kd.R_drew)); exact HO_3.out⟩, ⟨by (with_reducible repeat (first | apply Kd.R_alloc | apply Kd.R_drewN | apply Kd.R_drew)); exact HO_4.out⟩, ⟨by repeat (first | (with_reducible first | exact HB.out | apply below_alloc | apply pw_below_drewN | apply below_drew1) | exact HB.out)⟩⟩
    ·rw [if_neg c9] at H
     exact absurd H (by simp)
   ·rw [if_neg c8] at H
    have c8b0 : decide (x6_1 < (y205.length : Int)) = false := decide_eq_false c8
    clear c8
    obtain rfl := Option.some.inj H
    obtain ⟨Ao15, co15, eo15⟩ := Kd.R_slice HO_3.out
    subst eo15
    go_wp2
    go_ret
    exact ⟨by first | rfl | (simp [errW_none, errW_some] <;> rfl) | (simp [*, errW_none, errW_some] <;> rfl), by repeat (first | (with_reducible first | exact HB.out | apply below_alloc | apply pw_below_drewN | apply below_drew1) | exact HB.out)⟩
end Go.Proofs.YtjlchnmpebdggaaDoor.Mo
end
