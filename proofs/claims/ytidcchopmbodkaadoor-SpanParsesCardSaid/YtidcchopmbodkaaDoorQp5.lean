import Derived.Test.YtidcchopmbodkaaDoorQp1
import Derived.Test.YtidcchopmbodkaaDoorQp4
import Derived.Test.YtidcchopmbodkaaDoorQp3
import Derived.Test.YtidcchopmbodkaaDoorQp2
import Derived.Test.YtidcchopmbodkaaDoorRows
import Derived.ProofKit
import Derived.LaidMore
import Derived.OpenShut
import Derived.Stop.Joined
import Derived.Lib.LaidTab
section
namespace Go.Proofs.YtidcchopmbodkaaDoor.Sp
open Go.RowKit Go.Proofs.YtidcchopmbodkaaDoorW.PrintWords Go.Proofs.YtidcchopmbodkaaDoorW.PrintLast Go.Proofs.YtidcchopmbodkaaDoorW.PrintMore
attribute [local go_sem] max2_int min2_int max_two min_two max_three min_three max_four min_four   -- for this text's walks alone
set_option linter.unusedVariables false
set_option linter.unusedSimpArgs false
mutual
def postbagref4_Parse.l0 : Nat → ByteArray → List (S28) → Int → Option ((List (S28)) × Int)
 | 0, _, _, _ => none
 | k + 1, x0, x4, x5 => (postbagref4_end.f k x0 x5).bind fun bt239 => (if bt239.1 ≥ 0 then (if bt239.2 < (x0.size : Int) then (if 0 ≤ bt239.2 then (postbagref4_Parse.j1 k x0 x4 bt239.1 bt239.2 bt239.1 ((bt x0 bt239.2) == 58)) else (none)) else (postbagref4_Parse.j1 k x0 x4 bt239.1 bt239.2 bt239.1 false)) else (postbagref4_Parse.j1 k x0 x4 bt239.1 bt239.2 bt239.1 false))
def postbagref4_Parse.j1 : Nat → ByteArray → List (S28) → Int → Int → Int → Bool → Option ((List (S28)) × Int)
 | 0, _, _, _, _, _, _ => none
 | k + 1, x0, x4, x6, x7, x8, x32 => if x32 = true then ((postbagref4_end.f k x0 (wrap64 (x7 + 1))).bind fun bt241 => (postbagref4_Parse.j2 k x0 x4 x6 bt241.2 bt241.1)) else (postbagref4_Parse.j2 k x0 x4 x6 x7 x8)
def postbagref4_Parse.j2 : Nat → ByteArray → List (S28) → Int → Int → Int → Option ((List (S28)) × Int)
 | 0, _, _, _, _, _ => none
 | k + 1, x0, x4, x6, x7, x8 => if x6 < 0 then (postbagref4_Parse.j3 k x0 x4 x6 x7 x8 true) else (postbagref4_Parse.j3 k x0 x4 x6 x7 x8 (decide (x8 < 0)))
def postbagref4_Parse.j3 : Nat → ByteArray → List (S28) → Int → Int → Int → Bool → Option ((List (S28)) × Int)
 | 0, _, _, _, _, _, _ => none
 | k + 1, x0, x4, x6, x7, x8, x45 => if x45 = true then (some (([] : List (S28)), 40)) else (if x4.length < 8796093022208 then ((some (x4 ++ [(⟨x6, x8⟩ : S28)] : List (S28))).bind fun y243 => (if x7 = (x0.size : Int) then (if (y243.length : Int) > 64 then (some (([] : List (S28)), 41)) else (some (y243, 0))) else (if 0 ≤ x7 then (if x7 < (x0.size : Int) then (if (bt x0 x7) = 44 then (postbagref4_Parse.l0 k x0 y243 (wrap64 (x7 + 1))) else (some (([] : List (S28)), 40))) else (none)) else (none)))) else (none))
end
def postbagref4_Parse.f (k : Nat) (a0 : ByteArray) : Option ((List (S28)) × Int) := if (a0.size : Int) > 4096 then (some (([] : List (S28)), 2)) else (postbagref4_Parse.l0 k a0 ([] : List (S28)) 0)
set_option maxHeartbeats 8000000 in
set_option maxRecDepth 100000 in
theorem postbagref4_Parse.calls (k : Nat) (a0 : ByteArray) (r1 : List (S28)) (r2 : Int) (w : World) (h : postbagref4_Parse.f k a0 = some (r1, r2)) :
  Calls Tryd.prog 24 #[.string a0] w fun e w' => ∃ v0_ : Value, e = .returned (.tuple #[v0_, .int .i64 r2]) ∧ Kd.R k28 28 w' w.heap.size (fun _ => True) v0_ r1 ∧ Below w.heap.size w w' := by
 have hu28 := Tryd.underlying28
 have HB := Aside0.mk (Below.refl w.heap.size w)
 have H : (if (a0.size : Int) > 4096 then (some (([] : List (S28)), 2)) else (postbagref4_Parse.l0 k a0 ([] : List (S28)) 0)) = some (r1, r2) := h
 clear h
 by_cases c2 : (a0.size : Int) > 4096
 ·rw [if_pos c2] at H
  have c2b0 : decide (4096 < (a0.size : Int)) = true := decide_eq_true c2
  have c2b1 : decide (4096 < a0.size) = true := decide_eq_true (by omega)
  clear c2
  simp only [Option.some.injEq, Prod.mk.injEq] at H
  obtain ⟨rfl, rfl⟩ := H
  go_enter Tryd.func24, Tryd.ntmps24
  go_wp2
  go_ret2
  exact ⟨_, by first | rfl | (simp [errW_none, errW_some] <;> rfl) | (simp [*, errW_none, errW_some] <;> rfl), by first | exact Kd.R_nil _ _ _ _ _ | exact Kd.N_nil _ _ _ _ _ | exact Kd.V_nil _ _ _ _ _ | exact Kd.Q_nil _ _ _ _ _ | exact Kd.S_nil _ _ _ _ _, by repeat (first | (with_reducible first | exact HB.out | apply below_alloc | apply pw_below_drewN | apply below_drew1) | exact HB.out)⟩
 ·rw [if_neg c2] at H
  have c2b0 : decide (4096 < (a0.size : Int)) = false := decide_eq_false c2
  have c2b1 : decide (4096 < a0.size) = false := decide_eq_false (by omega)
  clear c2
  have H' := Aside0.mk H
  clear H
  go_enter Tryd.func24, Tryd.ntmps24
  go_wp2
  go_loopg [4, 5] k (fun kq v4 v5 w' => ∃ (x4_1 : List (S28)) (x5_1 : Int), v5 = .int .i64 x5_1 ∧ Aside0 (postbagref4_Parse.l0 kq a0 x4_1 x5_1 = some (r1, r2)) ∧ Aside0 (kq ≤ k) ∧ Aside0 (Kd.R k28 28 w' w.heap.size (fun _ => True) v4 x4_1) ∧ Aside0 (Below w.heap.size w w'))
  case atStart => exact ⟨(([] : List (S28))), (0), (by first | rfl | (simp; done) | (simp [*]; done)), H', ⟨Nat.le_refl _⟩, ⟨by first | exact Kd.R_nil _ _ _ _ _ | exact Kd.N_nil _ _ _ _ _ | exact Kd.V_nil _ _ _ _ _ | exact Kd.Q_nil _ _ _ _ _ | exact Kd.S_nil _ _ _ _ _⟩, ⟨by repeat (first | (with_reducible first | exact HB.out | apply below_alloc | apply pw_below_drewN | apply below_drew1) | exact HB.out)⟩⟩
  case round =>
   clear H'
   try clear c2
   try clear c2b0
   try clear c2b1
   try clear p2
   obtain ⟨x4_1, x5_1, rfl, HA, HK1, HO_4, HB⟩ := hrel
   cases gk with
   | zero => exact absurd HA.out (by simp [postbagref4_Parse.l0])
   | succ k1 =>
    have H := HA.out
    clear HA
    simp only [postbagref4_Parse.l0] at H
    replace H := Option.bind_eq_some_iff.mp H
    obtain ⟨⟨t239, t240⟩, A30, H⟩ := H
    replace H : (if t239 ≥ 0 then (if t240 < (a0.size : Int) then (if 0 ≤ t240 then (postbagref4_Parse.j1 k1 a0 x4_1 t239 t240 t239 ((bt a0 t240) == 58)) else (none)) else (postbagref4_Parse.j1 k1 a0 x4_1 t239 t240 t239 false)) else (postbagref4_Parse.j1 k1 a0 x4_1 t239 t240 t239 false)) = some (r1, r2) := H
    have A3 := Aside0.mk A30
    clear A30
    have HC4 := Aside0.mk H
    clear H
    go_upto_region 7 with (first | ((with_reducible refine gate_callee (f := 52) rfl ?_); refine goesL_ (some 15) rfl rfl Tryd.func52 (by kernel_rfl) rfl #[.string a0, .int .i64 x5_1] rfl (by (try simp only [List.map_toArray, List.map_cons, List.map_nil]); first | done | rfl | (simp only [List.length_drop, List.length_take]; rfl)) ?_; (with_reducible refine (postbagref4_end.calls k1 a0 x5_1 t239 t240 _ A3.out).mono ?_); rintro e w' ⟨rfl, ⟨nd, rfl⟩⟩; refine ⟨_, rfl, ?_⟩))
    (try simp only [Act.put, s1_, s2_, s3_])
    go_cut [32] (fun v32 wc => ∃ (kq : Nat) (x32_3 : Bool), v32 = .bool x32_3 ∧ Aside0 (postbagref4_Parse.j1 kq a0 x4_1 t239 t240 t239 x32_3 = some (r1, r2)) ∧ Aside0 (kq ≤ k1) ∧ Aside0 (Kd.R k28 28 wc w.heap.size (fun _ => True) u4 x4_1) ∧ Aside0 (Below w.heap.size w wc))
    case first =>
     have H := HC4.out
     clear HC4
     by_cases c5 : t239 ≥ 0
     ·rw [if_pos c5] at H
      have c5b0 : decide (0 ≤ t239) = true := decide_eq_true c5
      clear c5
      (first | rw [c5b0] | (simp only [i64_w, i32_w]; rw [c5b0]) | skip)
      by_cases c6 : t240 < (a0.size : Int)
      ·rw [if_pos c6] at H
       have c6b0 : decide (t240 < (a0.size : Int)) = true := decide_eq_true c6
       clear c6
       by_cases c7 : 0 ≤ t240
       ·rw [if_pos c7] at H
        have c7b0 : decide (0 ≤ t240) = true := decide_eq_true c7
        clear c7
        have H' := Aside0.mk H
        clear H
        have p8 : 0 ≤ (t240 : Int) := of_decide_eq_true (by first | (with_reducible assumption) | assumption)
        have q8 : t240 < (a0.size : Int) := of_decide_eq_true (by first | (with_reducible assumption) | assumption)
        have hx8 := bt_at a0 t240
        replace p8 := eq_true p8
        replace q8 := eq_true q8
        go_wp2
        go_meet
        case rel => exact ⟨_, (((bt a0 t240) == 58)), (by first | rfl | (simp; done) | (simp [*]; done)), H', ⟨by have := HK1.out; first | omega | exact Nat.le_refl _⟩, ⟨by (with_reducible repeat (first | apply Kd.R_alloc | apply Kd.R_drewN | apply Kd.R_drew)); exact HO_4.out⟩, ⟨by repeat (first | (with_reducible first | exact HB.out | apply below_alloc | apply pw_below_drewN | apply below_drew1) | exact HB.out)⟩⟩
       ·rw [if_neg c7] at H
        exact absurd H (by simp)
      ·rw [if_neg c6] at H
       have c6b0 : decide (t240 < (a0.size : Int)) = false := decide_eq_false c6
       clear c6
       have H' := Aside0.mk H
       clear H
       go_wp2
       go_meet
       case rel => exact ⟨_, (false), (by first | rfl | (simp; done) | (simp [*]; done)), H', ⟨by have := HK1.out; first | omega | exact Nat.le_refl _⟩, ⟨by (with_reducible repeat (first | apply Kd.R_alloc | apply Kd.R_drewN | apply Kd.R_drew)); exact HO_4.out⟩, ⟨by repeat (first | (with_reducible first | exact HB.out | apply below_alloc | apply pw_below_drewN | apply below_drew1) | exact HB.out)⟩⟩
     ·rw [if_neg c5] at H
      have c5b0 : decide (0 ≤ t239) = false := decide_eq_false c5
      clear c5
      (first | rw [c5b0] | (simp only [i64_w, i32_w]; rw [c5b0]) | skip)
      have H' := Aside0.mk H
      clear H
      go_wp2
      go_meet
      case rel => exact ⟨_, (false), (by first | rfl | (simp; done) | (simp [*]; done)), H', ⟨by have := HK1.out; first | omega | exact Nat.le_refl _⟩, ⟨by (with_reducible repeat (first | apply Kd.R_alloc | apply Kd.R_drewN | apply Kd.R_drew)); exact HO_4.out⟩, ⟨by repeat (first | (with_reducible first | exact HB.out | apply below_alloc | apply pw_below_drewN | apply below_drew1) | exact HB.out)⟩⟩
    case rest =>
     clear HC4
     try clear c2
     try clear c2b0
     try clear c2b1
     try clear p2
     try clear c5
     try clear c5b0
     try clear c6
     try clear c6b0
     try clear c7
     try clear c7b0
     try clear p8
     try clear q8
     try clear hx8
     try clear p2
     try clear p8
     try clear q8
     obtain ⟨kq, x32_3, rfl, HA, HJ3, HO_4, HB⟩ := hcut
     cases kq with
     | zero => exact absurd HA.out (by simp [postbagref4_Parse.j1])
     | succ kj3 =>
      have H := HA.out
      clear HA
      simp only [postbagref4_Parse.j1] at H
      have HC9 := Aside0.mk H
      clear H
      go_upto_if 32 with (fail)
      go_cut [7, 8] (fun v7 v8 wc => ∃ (kq : Nat) (x7_8 : Int) (x8_8 : Int), v7 = .int .i64 x7_8 ∧ v8 = .int .i64 x8_8 ∧ Aside0 (postbagref4_Parse.j2 kq a0 x4_1 t239 x7_8 x8_8 = some (r1, r2)) ∧ Aside0 (kq ≤ kj3) ∧ Aside0 (Kd.R k28 28 wc w.heap.size (fun _ => True) u4 x4_1) ∧ Aside0 (Below w.heap.size w wc))
      case first =>
       have H := HC9.out
       clear HC9
       by_cases c10 : x32_3 = true
       ·subst c10
        have H1 : ((postbagref4_end.f kj3 a0 (wrap64 (t240 + 1))).bind fun bt241 => (postbagref4_Parse.j2 kj3 a0 x4_1 t239 bt241.2 bt241.1)) = some (r1, r2) := by rw [if_pos rfl] at H; exact H
        clear H
        have H := H1
        clear H1
        replace H := Option.bind_eq_some_iff.mp H
        obtain ⟨⟨t241, t242⟩, A110, H⟩ := H
        replace H : (postbagref4_Parse.j2 kj3 a0 x4_1 t239 t242 t241) = some (r1, r2) := H
        have A11 := Aside0.mk A110
        clear A110
        have H' := Aside0.mk H
        clear H
        go_wp2_with (first | ((with_reducible refine gate_callee (f := 52) rfl ?_); refine goesL_ (some 37) rfl rfl Tryd.func52 (by kernel_rfl) rfl #[.string a0, .int .i64 (wrap64 (t240 + 1))] rfl (by (try simp only [List.map_toArray, List.map_cons, List.map_nil]); first | done | rfl | (simp only [List.length_drop, List.length_take]; rfl)) ?_; (with_reducible refine (postbagref4_end.calls kj3 a0 (wrap64 (t240 + 1)) t241 t242 _ A11.out).mono ?_); rintro e w' ⟨rfl, ⟨nd, rfl⟩⟩; refine ⟨_, rfl, ?_⟩))
        go_meet
        case rel => exact ⟨_, (t242), (t241), (by first | rfl | (simp; done) | (simp [*]; done)), (by first | rfl | (simp; done) | (simp [*]; done)), H', ⟨by have := HK1.out; have := HJ3.out; first | omega | exact Nat.le_refl _⟩, ⟨by (with_reducible repeat (first | apply Kd.R_alloc | apply Kd.R_drewN | apply Kd.R_drew)); exact HO_4.out⟩, ⟨by repeat (first | (with_reducible first | exact HB.out | apply below_alloc | apply pw_below_drewN | apply below_drew1) | exact HB.out)⟩⟩
       ·replace c10 := Bool.eq_false_iff.mpr c10
        subst c10
        have H1 : (postbagref4_Parse.j2 kj3 a0 x4_1 t239 t240 t239) = some (r1, r2) := by rw [if_neg (show ¬ (false = true) by decide)] at H; exact H
        clear H
        have H := H1
        clear H1
        have H' := Aside0.mk H
        clear H
        go_wp2
        go_meet
        case rel => exact ⟨_, (t240), (t239), (by first | rfl | (simp; done) | (simp [*]; done)), (by first | rfl | (simp; done) | (simp [*]; done)), H', ⟨by have := HK1.out; have := HJ3.out; first | omega | exact Nat.le_refl _⟩, ⟨by (with_reducible repeat (first | apply Kd.R_alloc | apply Kd.R_drewN | apply Kd.R_drew)); exact HO_4.out⟩, ⟨by repeat (first | (with_reducible first | exact HB.out | apply below_alloc | apply pw_below_drewN | apply below_drew1) | exact HB.out)⟩⟩
      case rest =>
       clear HC9
       try clear c1
       try clear c2
       try clear c2b0
       try clear c2b1
       try clear p2
       try clear c5
       try clear c5b0
       try clear c6
       try clear c6b0
       try clear p6
       try clear c7
       try clear c7b0
       try clear p8
       try clear q8
       try clear hx8
       try clear c10
       try clear p2
       try clear p8
       try clear q8
       obtain ⟨kq, x7_8, x8_8, rfl, rfl, HA, HJ8, HO_4, HB⟩ := hcut
       cases kq with
       | zero => exact absurd HA.out (by simp [postbagref4_Parse.j2])
       | succ kj8 =>
        have H := HA.out
        clear HA
        simp only [postbagref4_Parse.j2] at H
        have HC12 := Aside0.mk H
        clear H
        go_upto_region 9 with (fail)
        go_cut [45] (fun v45 wc => ∃ (kq : Nat) (x45_11 : Bool), v45 = .bool x45_11 ∧ Aside0 (postbagref4_Parse.j3 kq a0 x4_1 t239 x7_8 x8_8 x45_11 = some (r1, r2)) ∧ Aside0 (kq ≤ kj8) ∧ Aside0 (Kd.R k28 28 wc w.heap.size (fun _ => True) u4 x4_1) ∧ Aside0 (Below w.heap.size w wc))
        case first =>
         have H := HC12.out
         clear HC12
         by_cases c13 : t239 < 0
         ·rw [if_pos c13] at H
          have c13b0 : decide (t239 < 0) = true := decide_eq_true c13
          clear c13
          (first | rw [c13b0] | (simp only [i64_w, i32_w]; rw [c13b0]) | skip)
          have H' := Aside0.mk H
          clear H
          go_wp2
          go_meet
          case rel => exact ⟨_, (true), (by first | rfl | (simp; done) | (simp [*]; done)), H', ⟨by have := HK1.out; have := HJ3.out; have := HJ8.out; first | omega | exact Nat.le_refl _⟩, ⟨by (with_reducible repeat (first | apply Kd.R_alloc | apply Kd.R_drewN | apply Kd.R_drew)); exact HO_4.out⟩, ⟨by repeat (first | (with_reducible first | exact HB.out | apply below_alloc | apply pw_below_drewN | apply below_drew1) | exact HB.out)⟩⟩
         ·rw [if_neg c13] at H
          have c13b0 : decide (t239 < 0) = false := decide_eq_false c13
          clear c13
          (first | rw [c13b0] | (simp only [i64_w, i32_w]; rw [c13b0]) | skip)
          have H' := Aside0.mk H
          clear H
          go_wp2
          go_meet
          case rel => exact ⟨_, (decide (x8_8 < 0)), (by first | rfl | (simp; done) | (simp [*]; done)), H', ⟨by have := HK1.out; have := HJ3.out; have := HJ8.out; first | omega | exact Nat.le_refl _⟩, ⟨by (with_reducible repeat (first | apply Kd.R_alloc | apply Kd.R_drewN | apply Kd.R_drew)); exact HO_4.out⟩, ⟨by repeat (first | (with_reducible first | exact HB.out | apply below_alloc | apply pw_below_drewN | apply below_drew1) | exact HB.out)⟩⟩
        case rest =>
         clear HC12
         try clear c1
         try clear c2
         try clear c2b0
         try clear c2b1
         try clear p2
         try clear c5
         try clear c5b0
         try clear c6
         try clear c6b0
         try clear p6
         try clear c7
         try clear c7b0
         try clear p8
         try clear q8
         try clear hx8
         try clear c10
         try clear c13
         try clear c13b0
         try clear p2
         try clear p6
         try clear p8
         try clear q8
         obtain ⟨kq, x45_11, rfl, HA, HJ11, HO_4, HB⟩ := hcut
         cases kq with
         | zero => exact absurd HA.out (by simp [postbagref4_Parse.j3])
         | succ kj11 =>
          have H := HA.out
          clear HA
          simp only [postbagref4_Parse.j3] at H
          by_cases c14 : x45_11 = true
          ·subst c14
           have H1 : (some (([] : List (S28)), 40)) = some (r1, r2) := by rw [if_pos rfl] at H; exact H
           clear H
           have H := H1
           clear H1
           simp only [Option.some.injEq, Prod.mk.injEq] at H
           obtain ⟨rfl, rfl⟩ := H
           go_wp2
           go_ret2
           exact ⟨_, by first | rfl | (simp [errW_none, errW_some] <;> rfl) | (simp [*, errW_none, errW_some] <;> rfl), by first | exact Kd.R_nil _ _ _ _ _ | exact Kd.N_nil _ _ _ _ _ | exact Kd.V_nil _ _ _ _ _ | exact Kd.Q_nil _ _ _ _ _ | exact Kd.S_nil _ _ _ _ _, by repeat (first | (with_reducible first | exact HB.out | apply below_alloc | apply pw_below_drewN | apply below_drew1) | exact HB.out)⟩
          ·replace c14 := Bool.eq_false_iff.mpr c14
           subst c14
           have H1 : (if x4_1.length < 8796093022208 then ((some (x4_1 ++ [(⟨t239, x8_8⟩ : S28)] : List (S28))).bind fun y243 => (if x7_8 = (a0.size : Int) then (if (y243.length : Int) > 64 then (some (([] : List (S28)), 41)) else (some (y243, 0))) else (if 0 ≤ x7_8 then (if x7_8 < (a0.size : Int) then (if (bt a0 x7_8) = 44 then (postbagref4_Parse.l0 kj11 a0 y243 (wrap64 (x7_8 + 1))) else (some (([] : List (S28)), 40))) else (none)) else (none)))) else (none)) = some (r1, r2) := by rw [if_neg (show ¬ (false = true) by decide)] at H; exact H
           clear H
           have H := H1
           clear H1
           by_cases c15 : x4_1.length < 8796093022208
           ·rw [if_pos c15] at H
            have LMc15 := Aside0.mk c15
            clear c15
            obtain ⟨y243, hy243⟩ : ∃ y_ : List (S28), y_ = (x4_1 ++ [(⟨t239, x8_8⟩ : S28)]) := ⟨_, rfl⟩
            replace H : (if x7_8 = (a0.size : Int) then (if (y243.length : Int) > 64 then (some (([] : List (S28)), 41)) else (some (y243, 0))) else (if 0 ≤ x7_8 then (if x7_8 < (a0.size : Int) then (if (bt a0 x7_8) = 44 then (postbagref4_Parse.l0 kj11 a0 y243 (wrap64 (x7_8 + 1))) else (some (([] : List (S28)), 40))) else (none)) else (none))) = some (r1, r2) := by first | (rw [hy243]; with_reducible exact H) | (have H2_ := (Option.bind_some _ _).symm.trans H; rw [hy243]; with_reducible exact H2_) | (have H2_ := (Option.bind_some _ _).symm.trans H; with_reducible exact H2_) | with_reducible exact H | (rw [hy243]; exact H) | exact H
            have Ny243 := Aside0.mk hy243
            clear hy243
            by_cases c16 : x7_8 = (a0.size : Int)
            ·rw [if_pos c16] at H
             have c16b0 : (x7_8 == (a0.size : Int)) = true := beq_iff_eq.mpr c16
             have c16b1 : (x7_8 != (a0.size : Int)) = false := bne_eq_false_iff_eq.mpr c16
             clear c16
             by_cases c17 : (y243.length : Int) > 64
             ·rw [if_pos c17] at H
              have c17b0 : decide (64 < (y243.length : Int)) = true := decide_eq_true c17
              have c17b1 : decide (64 < y243.length) = true := decide_eq_true (by omega)
              clear c17
              simp only [Option.some.injEq, Prod.mk.injEq] at H
              obtain ⟨rfl, rfl⟩ := H
              go_wp2_with (first | ((with_reducible refine gate_builtin (b := .append) (xs := #[.tmp 46, .tmp 50]) rfl ?_); (try (refine gate_guard (by rfl) ?_; dsimp only)); at_builtin; refine Kd.R_append k28 (w0 := w) w.heap.size rfl (.tmp 46) (.tmp 50) 23 28 (.agg #[(.int .i64 0), (.int .i64 0)]) 16 rfl Tryd.underlying23 info28 rfl (by decide) (by omega) u4 x4_1 (⟨t239, x8_8⟩ : S28) [.int .i64 t239, .int .i64 x8_8] (fun _ => True) (fun _ => False) rfl rfl ?aP (fun _ hk => hk.elim) ?aF ?aO ?aB ?aS ?aL ?_; (case aP => exact k28_mkM _ _ _ (⟨t239, x8_8⟩ : S28)); (case aB => exact (by repeat (first | (with_reducible first | exact HB.out | apply below_alloc | apply pw_below_drewN | apply below_drew1) | exact HB.out))); (case aF => exact (fun _ _ => trivial)); (case aO => exact (by (with_reducible repeat (first | apply Kd.R_alloc | apply Kd.R_drewN | apply Kd.R_drew)); exact HO_4.out)); (case aS => exact (below_size (by repeat (first | (with_reducible first | exact HB.out | apply below_alloc | apply pw_below_drewN | apply below_drew1) | exact HB.out)))); (case aL => have := LMc15.out; omega); intro v244 w18 ho hb hg hat; rw [← Ny243.out] at ho; have n0_ := Aside0.mk (hb); have n1_ := Aside0.mk (ho); clear HB; clear HO_4; have HB := n0_; have HO245 := n1_; clear n0_ n1_; clear ho hb hg hat; obtain ⟨Ao19, co19, eo19⟩ := Kd.R_slice HO245.out; subst eo19))
              go_ret2
              exact ⟨_, by first | rfl | (simp [errW_none, errW_some] <;> rfl) | (simp [*, errW_none, errW_some] <;> rfl), by first | exact Kd.R_nil _ _ _ _ _ | exact Kd.N_nil _ _ _ _ _ | exact Kd.V_nil _ _ _ _ _ | exact Kd.Q_nil _ _ _ _ _ | exact Kd.S_nil _ _ _ _ _, by repeat (first | (with_reducible first | exact HB.out | apply below_alloc | apply pw_below_drewN | apply below_drew1) | exact HB.out)⟩
             ·rw [if_neg c17] at H
              have c17b0 : decide (64 < (y243.length : Int)) = false := decide_eq_false c17
              have c17b1 : decide (64 < y243.length) = false := decide_eq_false (by omega)
              clear c17
              simp only [Option.some.injEq, Prod.mk.injEq] at H
              obtain ⟨rfl, rfl⟩ := H
              go_wp2_with (first | ((with_reducible refine gate_builtin (b := .append) (xs := #[.tmp 46, .tmp 50]) rfl ?_); (try (refine gate_guard (by rfl) ?_; dsimp only)); at_builtin; refine Kd.R_append k28 (w0 := w) w.heap.size rfl (.tmp 46) (.tmp 50) 23 28 (.agg #[(.int .i64 0), (.int .i64 0)]) 16 rfl Tryd.underlying23 info28 rfl (by decide) (by omega) u4 x4_1 (⟨t239, x8_8⟩ : S28) [.int .i64 t239, .int .i64 x8_8] (fun _ => True) (fun _ => False) rfl rfl ?aP (fun _ hk => hk.elim) ?aF ?aO ?aB ?aS ?aL ?_; (case aP => exact k28_mkM _ _ _ (⟨t239, x8_8⟩ : S28)); (case aB => exact (by repeat (first | (with_reducible first | exact HB.out | apply below_alloc | apply pw_below_drewN | apply below_drew1) | exact HB.out))); (case aF => exact (fun _ _ => trivial)); (case aO => exact (by (with_reducible repeat (first | apply Kd.R_alloc | apply Kd.R_drewN | apply Kd.R_drew)); exact HO_4.out)); (case aS => exact (below_size (by repeat (first | (with_reducible first | exact HB.out | apply below_alloc | apply pw_below_drewN | apply below_drew1) | exact HB.out)))); (case aL => have := LMc15.out; omega); intro v244 w20 ho hb hg hat; rw [← Ny243.out] at ho; have n0_ := Aside0.mk (hb); have n1_ := Aside0.mk (ho); clear HB; clear HO_4; have HB := n0_; have HO245 := n1_; clear n0_ n1_; clear ho hb hg hat; obtain ⟨Ao21, co21, eo21⟩ := Kd.R_slice HO245.out; subst eo21))
              go_ret2
              exact ⟨_, by first | rfl | (simp [errW_none, errW_some] <;> rfl) | (simp [*, errW_none, errW_some] <;> rfl), by (with_reducible repeat (first | apply Kd.R_alloc | apply Kd.R_drewN | apply Kd.R_drew)); exact HO245.out, by repeat (first | (with_reducible first | exact HB.out | apply below_alloc | apply pw_below_drewN | apply below_drew1) | exact HB.out)⟩
            ·rw [if_neg c16] at H
             have c16b0 : (x7_8 == (a0.size : Int)) = false := beq_eq_false_iff_ne.mpr c16
             have c16b1 : (x7_8 != (a0.size : Int)) = true := bne_iff_ne.mpr c16
             by_cases c22 : 0 ≤ x7_8
             ·rw [if_pos c22] at H
              have c22b0 : decide (0 ≤ x7_8) = true := decide_eq_true c22
              clear c22
              by_cases c23 : x7_8 < (a0.size : Int)
              ·rw [if_pos c23] at H
               have c23b0 : decide (x7_8 < (a0.size : Int)) = true := decide_eq_true c23
               clear c23
               by_cases c25 : (bt a0 x7_8) = 44
               ·rw [if_pos c25] at H
                have c25b0 : ((bt a0 x7_8) == 44) = true := beq_iff_eq.mpr c25
                have c25b1 : ((bt a0 x7_8) != 44) = false := bne_eq_false_iff_eq.mpr c25
                clear c25
                have H' := Aside0.mk H
                clear H
                go_wp2_with (first | ((with_reducible refine gate_builtin (b := .append) (xs := #[.tmp 46, .tmp 50]) rfl ?_); (try (refine gate_guard (by rfl) ?_; dsimp only)); at_builtin; refine Kd.R_append k28 (w0 := w) w.heap.size rfl (.tmp 46) (.tmp 50) 23 28 (.agg #[(.int .i64 0), (.int .i64 0)]) 16 rfl Tryd.underlying23 info28 rfl (by decide) (by omega) u4 x4_1 (⟨t239, x8_8⟩ : S28) [.int .i64 t239, .int .i64 x8_8] (fun _ => True) (fun _ => False) rfl rfl ?aP (fun _ hk => hk.elim) ?aF ?aO ?aB ?aS ?aL ?_; (case aP => exact k28_mkM _ _ _ (⟨t239, x8_8⟩ : S28)); (case aB => exact (by repeat (first | (with_reducible first | exact HB.out | apply below_alloc | apply pw_below_drewN | apply below_drew1) | exact HB.out))); (case aF => exact (fun _ _ => trivial)); (case aO => exact (by (with_reducible repeat (first | apply Kd.R_alloc | apply Kd.R_drewN | apply Kd.R_drew)); exact HO_4.out)); (case aS => exact (below_size (by repeat (first | (with_reducible first | exact HB.out | apply below_alloc | apply pw_below_drewN | apply below_drew1) | exact HB.out)))); (case aL => have := LMc15.out; omega); intro v244 w26 ho hb hg hat; rw [← Ny243.out] at ho; have n0_ := Aside0.mk (hb); have n1_ := Aside0.mk (ho); clear HB; clear HO_4; have HB := n0_; have HO245 := n1_; clear n0_ n1_; clear ho hb hg hat; have p24 : 0 ≤ (x7_8 : Int) := of_decide_eq_true (by first | (with_reducible assumption) | assumption); have q24 : x7_8 < (a0.size : Int) := of_decide_eq_true (by first | (with_reducible assumption) | assumption); have hx24 := bt_at a0 x7_8; replace p24 := eq_true p24; replace q24 := eq_true q24))
                go_roundg kj11
                case measure => have := HK1.out; have := HJ3.out; have := HJ8.out; have := HJ11.out; omega
                case rel => exact ⟨(y243), (wrap64 (x7_8 + 1)), (by first | rfl | (simp; done) | (simp [*]; done)), H', ⟨by have := HK1.out; have := HJ3.out; have := HJ8.out; have := HJ11.out; omega⟩, ⟨by (with_reducible repeat (first | apply Kd.R_alloc | apply Kd.R_drewN | apply Kd.R_drew)); exact HO245.out⟩, ⟨by repeat (first | (with_reducible first | exact HB.out | apply below_alloc | apply pw_below_drewN | apply below_drew1) | exact HB.out)⟩⟩
               ·rw [if_neg c25] at H
                have c25b0 : ((bt a0 x7_8) == 44) = false := beq_eq_false_iff_ne.mpr c25
                have c25b1 : ((bt a0 x7_8) != 44) = true := bne_iff_ne.mpr c25
                simp only [Option.some.injEq, Prod.mk.injEq] at H
                obtain ⟨rfl, rfl⟩ := H
                go_wp2_with (first | ((with_reducible refine gate_builtin (b := .append) (xs := #[.tmp 46, .tmp 50]) rfl ?_); (try (refine gate_guard (by rfl) ?_; dsimp only)); at_builtin; refine Kd.R_append k28 (w0 := w) w.heap.size rfl (.tmp 46) (.tmp 50) 23 28 (.agg #[(.int .i64 0), (.int .i64 0)]) 16 rfl Tryd.underlying23 info28 rfl (by decide) (by omega) u4 x4_1 (⟨t239, x8_8⟩ : S28) [.int .i64 t239, .int .i64 x8_8] (fun _ => True) (fun _ => False) rfl rfl ?aP (fun _ hk => hk.elim) ?aF ?aO ?aB ?aS ?aL ?_; (case aP => exact k28_mkM _ _ _ (⟨t239, x8_8⟩ : S28)); (case aB => exact (by repeat (first | (with_reducible first | exact HB.out | apply below_alloc | apply pw_below_drewN | apply below_drew1) | exact HB.out))); (case aF => exact (fun _ _ => trivial)); (case aO => exact (by (with_reducible repeat (first | apply Kd.R_alloc | apply Kd.R_drewN | apply Kd.R_drew)); exact HO_4.out)); (case aS => exact (below_size (by repeat (first | (with_reducible first | exact HB.out | apply below_alloc | apply pw_below_drewN | apply below_drew1) | exact HB.out)))); (case aL => have := LMc15.out; omega); intro v244 w27 ho hb hg hat; rw [← Ny243.out] at ho; have n0_ := Aside0.mk (hb); have n1_ := Aside0.mk (ho); clear HB; clear HO_4; have HB := n0_; have HO245 := n1_; clear n0_ n1_; clear ho hb hg hat; have p24 : 0 ≤ (x7_8 : Int) := of_decide_eq_true (by first | (with_reducible assumption) | assumption); have q24 : x7_8 < (a0.size : Int) := of_decide_eq_true (by first | (with_reducible assumption) | assumption); have hx24 := bt_at a0 x7_8; replace p24 := eq_true p24; replace q24 := eq_true q24))
                go_ret2
                exact ⟨_, by first | rfl | (simp [errW_none, errW_some] <;> rfl) | (simp [*, errW_none, errW_some] <;> rfl), by first | exact Kd.R_nil _ _ _ _ _ | exact Kd.N_nil _ _ _ _ _ | exact Kd.V_nil _ _ _ _ _ | exact Kd.Q_nil _ _ _ _ _ | exact Kd.S_nil _ _ _ _ _, by repeat (first | (with_reducible first | exact HB.out | apply below_alloc | apply pw_below_drewN | apply below_drew1) | exact HB.out)⟩
              ·rw [if_neg c23] at H
               exact absurd H (by simp)
             ·rw [if_neg c22] at H
              exact absurd H (by simp)
           ·rw [if_neg c15] at H
            exact absurd H (by simp)
end Go.Proofs.YtidcchopmbodkaaDoor.Sp
end
section
namespace Go.Proofs.YtidcchopmbodkaaDoor.Sp
open Go.RowKit Go.Proofs.YtidcchopmbodkaaDoorW.PrintWords Go.Proofs.YtidcchopmbodkaaDoorW.PrintLast Go.Proofs.YtidcchopmbodkaaDoorW.PrintMore
attribute [local go_sem] max2_int min2_int max_two min_two max_three min_three max_four min_four   -- for this text's walks alone
set_option linter.unusedVariables false
set_option linter.unusedSimpArgs false
mutual
def postbaglaw4_SpanParses.l0 : Nat → List (S38) → List (List (S28)) → List (List (S28)) → Int → Option (Bool)
 | 0, _, _, _, _ => none
 | k + 1, x0, x3, x4, x5 => if x5 < (wrap64 (2 * (x0.length : Int))) then ((postbaglaw4_turn.f x5 (x0.length : Int)).bind fun t363 => (if 0 ≤ t363 then (if t363 < (x0.length : Int) then ((postbagref4_Parse.f k ((rd_T38 x0 t363).f0)).bind fun bt365 => ((span_Parse.f ((rd_T38 x0 t363).f0)).bind fun bt369 => ((postbaglaw4_num.f bt369.2).bind fun t373 => (if t373 = bt365.2 then ((postbaglaw4_same.f k bt369.1 bt365.1).bind fun t374 => (if t374 = true then (if x3.length < 5864062014805 then (if x4.length < 5864062014805 then (postbaglaw4_SpanParses.l0 k x0 (x3 ++ [bt369.1]) (x4 ++ [bt365.1]) (wrap64 (x5 + 1))) else (none)) else (none)) else (some false))) else (some false))))) else (none)) else (none))) else (postbaglaw4_SpanParses.l1 k x3 x4 0)
def postbaglaw4_SpanParses.l1 : Nat → List (List (S28)) → List (List (S28)) → Int → Option (Bool)
 | 0, _, _, _ => none
 | k + 1, x3, x4, x11 => if x11 < (x3.length : Int) then (if 0 ≤ x11 then (if x11 < (x4.length : Int) then ((postbaglaw4_same.f k (rd_L2 x3 x11) (rd_L2 x4 x11)).bind fun t383 => (if t383 = true then (postbaglaw4_SpanParses.l1 k x3 x4 (wrap64 (x11 + 1))) else (some false))) else (none)) else (none)) else ((postbaglaw4_known.f k).bind fun t384 => (some t384))
end
def postbaglaw4_SpanParses.f (k : Nat) (l0 : List (S38)) : Option (Bool) := (postbaglaw4_long.f k l0).bind fun t362 => (if t362 = true then (some true) else (postbaglaw4_SpanParses.l0 k l0 ([] : List (List (S28))) ([] : List (List (S28))) 0))
set_option maxHeartbeats 8000000 in
set_option maxRecDepth 100000 in
theorem postbaglaw4_SpanParses.calls (k : Nat) (A0 : Option Addr) (c0 : Nat) (l0 : List (S38)) (r : Bool) (w : World) (hr0 : Kd.C k38 w A0 l0.length l0) (hc0 : l0.length ≤ c0) (h : postbaglaw4_SpanParses.f k l0 = some r) (hL_ : Laid w) :
  Calls Tryd.prog 5 #[.slice A0 l0.length c0] w fun e w' => e = .returned (.bool r) ∧ Below w.heap.size w w' := by
 have HL_ := Aside0.mk hL_
 clear hL_
 have HR0 := Aside0.mk hr0
 have HC0 := Aside0.mk hc0
 clear hr0 hc0
 have HB := Aside0.mk (Below.refl w.heap.size w)
 have H : ((postbaglaw4_long.f k l0).bind fun t362 => (if t362 = true then (some true) else (postbaglaw4_SpanParses.l0 k l0 ([] : List (List (S28))) ([] : List (List (S28))) 0))) = some r := h
 clear h
 replace H := Option.bind_eq_some_iff.mp H
 obtain ⟨t362, A20, H⟩ := H
 replace H : (if t362 = true then (some true) else (postbaglaw4_SpanParses.l0 k l0 ([] : List (List (S28))) ([] : List (List (S28))) 0)) = some r := H
 have A2 := Aside0.mk A20
 clear A20
 by_cases c3 : t362 = true
 ·subst c3
  have H1 : (some true) = some r := by rw [if_pos rfl] at H; exact H
  clear H
  have H := H1
  clear H1
  obtain rfl := Option.some.inj H
  go_enter Tryd.func5, Tryd.ntmps5
  go_wp2_with (first | (go_at_call 21; (with_reducible refine (postbaglaw4_long.calls k _ _ l0 true _ ?side1 ?side2 A2.out).mono ?_); (case side1 => repeat (first | exact HR0.out | (with_reducible refine Kd.C_alloc ?_ _) | (with_reducible refine Kd.C_drewN ?_ _) | (with_reducible refine Kd.C_drew ?_))); (case side2 => exact HC0.out); rintro e w' ⟨rfl, ⟨nd, rfl⟩⟩; (try first | exact ⟨rfl, _, World.drewN_drewN _ _ _⟩ | exact ⟨rfl, _, Eq.trans (World.drewN_drewN _ _ _) (congrArg (World.drewN _) (Nat.add_assoc _ _ _))⟩)))
  repeat (go_quiet (first | (go_at_call 21; (with_reducible refine (postbaglaw4_long.calls k _ _ l0 true _ ?side1 ?side2 A2.out).mono ?_); (case side1 => repeat (first | exact HR0.out | (with_reducible refine Kd.C_alloc ?_ _) | (with_reducible refine Kd.C_drewN ?_ _) | (with_reducible refine Kd.C_drew ?_))); (case side2 => exact HC0.out); rintro e w' ⟨rfl, ⟨nd, rfl⟩⟩; (try first | exact ⟨rfl, _, World.drewN_drewN _ _ _⟩ | exact ⟨rfl, _, Eq.trans (World.drewN_drewN _ _ _) (congrArg (World.drewN _) (Nat.add_assoc _ _ _))⟩))); try go_wp2_with (first | (go_at_call 21; (with_reducible refine (postbaglaw4_long.calls k _ _ l0 true _ ?side1 ?side2 A2.out).mono ?_); (case side1 => repeat (first | exact HR0.out | (with_reducible refine Kd.C_alloc ?_ _) | (with_reducible refine Kd.C_drewN ?_ _) | (with_reducible refine Kd.C_drew ?_))); (case side2 => exact HC0.out); rintro e w' ⟨rfl, ⟨nd, rfl⟩⟩; (try first | exact ⟨rfl, _, World.drewN_drewN _ _ _⟩ | exact ⟨rfl, _, Eq.trans (World.drewN_drewN _ _ _) (congrArg (World.drewN _) (Nat.add_assoc _ _ _))⟩))))
  go_ret
  exact ⟨by first | rfl | (simp [errW_none, errW_some] <;> rfl) | (simp [*, errW_none, errW_some] <;> rfl), by repeat (first | (with_reducible first | exact HB.out | apply below_alloc | apply pw_below_drewN | apply below_drew1) | exact HB.out)⟩
 ·replace c3 := Bool.eq_false_iff.mpr c3
  subst c3
  have H1 : (postbaglaw4_SpanParses.l0 k l0 ([] : List (List (S28))) ([] : List (List (S28))) 0) = some r := by rw [if_neg (show ¬ (false = true) by decide)] at H; exact H
  clear H
  have H := H1
  clear H1
  have H' := Aside0.mk H
  clear H
  go_enter Tryd.func5, Tryd.ntmps5
  go_wp2_with (first | (go_at_call 21; (with_reducible refine (postbaglaw4_long.calls k _ _ l0 false _ ?side1 ?side2 A2.out).mono ?_); (case side1 => repeat (first | exact HR0.out | (with_reducible refine Kd.C_alloc ?_ _) | (with_reducible refine Kd.C_drewN ?_ _) | (with_reducible refine Kd.C_drew ?_))); (case side2 => exact HC0.out); rintro e w' ⟨rfl, ⟨nd, rfl⟩⟩; (try first | exact ⟨rfl, _, World.drewN_drewN _ _ _⟩ | exact ⟨rfl, _, Eq.trans (World.drewN_drewN _ _ _) (congrArg (World.drewN _) (Nat.add_assoc _ _ _))⟩)))
  repeat (go_quiet (first | (go_at_call 21; (with_reducible refine (postbaglaw4_long.calls k _ _ l0 false _ ?side1 ?side2 A2.out).mono ?_); (case side1 => repeat (first | exact HR0.out | (with_reducible refine Kd.C_alloc ?_ _) | (with_reducible refine Kd.C_drewN ?_ _) | (with_reducible refine Kd.C_drew ?_))); (case side2 => exact HC0.out); rintro e w' ⟨rfl, ⟨nd, rfl⟩⟩; (try first | exact ⟨rfl, _, World.drewN_drewN _ _ _⟩ | exact ⟨rfl, _, Eq.trans (World.drewN_drewN _ _ _) (congrArg (World.drewN _) (Nat.add_assoc _ _ _))⟩))); try go_wp2_with (first | (go_at_call 21; (with_reducible refine (postbaglaw4_long.calls k _ _ l0 false _ ?side1 ?side2 A2.out).mono ?_); (case side1 => repeat (first | exact HR0.out | (with_reducible refine Kd.C_alloc ?_ _) | (with_reducible refine Kd.C_drewN ?_ _) | (with_reducible refine Kd.C_drew ?_))); (case side2 => exact HC0.out); rintro e w' ⟨rfl, ⟨nd, rfl⟩⟩; (try first | exact ⟨rfl, _, World.drewN_drewN _ _ _⟩ | exact ⟨rfl, _, Eq.trans (World.drewN_drewN _ _ _) (congrArg (World.drewN _) (Nat.add_assoc _ _ _))⟩))))
  go_loopg [3, 4, 5] k (fun kq v3 v4 v5 w' => ∃ (x3_1 : List (List (S28))) (x4_1 : List (List (S28))) (x5_1 : Int), v5 = .int .i64 x5_1 ∧ Aside0 (postbaglaw4_SpanParses.l0 kq l0 x3_1 x4_1 x5_1 = some r) ∧ Aside0 (kq ≤ k) ∧ Aside0 (Kd.S (Kd.slice 28 k28) 23 w' w.heap.size (fun k_ => some k_ ≠ (v4 : Value).ownBlock) v3 x3_1) ∧ Aside0 (Kd.S (Kd.slice 28 k28) 23 w' w.heap.size (fun k_ => some k_ ≠ (v3 : Value).ownBlock) v4 x4_1) ∧ Aside0 (Below w.heap.size w w'))
  case atStart => exact ⟨(([] : List (List (S28)))), (([] : List (List (S28)))), (0), (by first | rfl | (simp; done) | (simp [*]; done)), H', ⟨Nat.le_refl _⟩, ⟨by first | exact Kd.S_nil _ _ _ _ _ | exact Kd.N_nil _ _ _ _ _ | exact Kd.V_nil _ _ _ _ _ | exact Kd.Q_nil _ _ _ _ _ | exact Kd.R_nil _ _ _ _ _⟩, ⟨by first | exact Kd.S_nil _ _ _ _ _ | exact Kd.N_nil _ _ _ _ _ | exact Kd.V_nil _ _ _ _ _ | exact Kd.Q_nil _ _ _ _ _ | exact Kd.R_nil _ _ _ _ _⟩, ⟨by repeat (first | (with_reducible first | exact HB.out | apply below_alloc | apply pw_below_drewN | apply below_drew1) | exact HB.out)⟩⟩
  case round =>
   clear H'
   try clear p2
   try clear c3
   obtain ⟨x3_1, x4_1, x5_1, rfl, HA, HK1, HO_3, HO_4, HB⟩ := hrel
   cases gk with
   | zero => exact absurd HA.out (by simp [postbaglaw4_SpanParses.l0])
   | succ k1 =>
    have H := HA.out
    clear HA
    simp only [postbaglaw4_SpanParses.l0] at H
    by_cases c4 : x5_1 < (wrap64 (2 * (l0.length : Int)))
    ·rw [if_pos c4] at H
     have c4b0 : decide (x5_1 < (wrap64 (2 * (l0.length : Int)))) = true := decide_eq_true c4
     clear c4
     replace H := Option.bind_eq_some_iff.mp H
     obtain ⟨t363, A50, H⟩ := H
     replace H : (if 0 ≤ t363 then (if t363 < (l0.length : Int) then ((postbagref4_Parse.f k1 ((rd_T38 l0 t363).f0)).bind fun bt365 => ((span_Parse.f ((rd_T38 l0 t363).f0)).bind fun bt369 => ((postbaglaw4_num.f bt369.2).bind fun t373 => (if t373 = bt365.2 then ((postbaglaw4_same.f k1 bt369.1 bt365.1).bind fun t374 => (if t374 = true then (if x3_1.length < 5864062014805 then (if x4_1.length < 5864062014805 then (postbaglaw4_SpanParses.l0 k1 l0 (x3_1 ++ [bt369.1]) (x4_1 ++ [bt365.1]) (wrap64 (x5_1 + 1))) else (none)) else (none)) else (some false))) else (some false))))) else (none)) else (none)) = some r := H
     have A5 := Aside0.mk A50
     clear A50
     by_cases c6 : 0 ≤ t363
     ·rw [if_pos c6] at H
      have c6b0 : decide (0 ≤ t363) = true := decide_eq_true c6
      clear c6
      by_cases c7 : t363 < (l0.length : Int)
      ·rw [if_pos c7] at H
       have c7b0 : decide (t363 < (l0.length : Int)) = true := decide_eq_true c7
       clear c7
       replace H := Option.bind_eq_some_iff.mp H
       obtain ⟨⟨t365, t366⟩, A80, H⟩ := H
       replace H : ((span_Parse.f ((rd_T38 l0 t363).f0)).bind fun bt369 => ((postbaglaw4_num.f bt369.2).bind fun t373 => (if t373 = t366 then ((postbaglaw4_same.f k1 bt369.1 t365).bind fun t374 => (if t374 = true then (if x3_1.length < 5864062014805 then (if x4_1.length < 5864062014805 then (postbaglaw4_SpanParses.l0 k1 l0 (x3_1 ++ [bt369.1]) (x4_1 ++ [t365]) (wrap64 (x5_1 + 1))) else (none)) else (none)) else (some false))) else (some false)))) = some r := H
       have A8 := Aside0.mk A80
       clear A80
       replace H := Option.bind_eq_some_iff.mp H
       obtain ⟨⟨t369, t370⟩, A90, H⟩ := H
       replace H : ((postbaglaw4_num.f t370).bind fun t373 => (if t373 = t366 then ((postbaglaw4_same.f k1 t369 t365).bind fun t374 => (if t374 = true then (if x3_1.length < 5864062014805 then (if x4_1.length < 5864062014805 then (postbaglaw4_SpanParses.l0 k1 l0 (x3_1 ++ [t369]) (x4_1 ++ [t365]) (wrap64 (x5_1 + 1))) else (none)) else (none)) else (some false))) else (some false))) = some r := H
       have A9 := Aside0.mk A90
       clear A90
       replace H := Option.bind_eq_some_iff.mp H
       obtain ⟨t373, A100, H⟩ := H
       replace H : (if t373 = t366 then ((postbaglaw4_same.f k1 t369 t365).bind fun t374 => (if t374 = true then (if x3_1.length < 5864062014805 then (if x4_1.length < 5864062014805 then (postbaglaw4_SpanParses.l0 k1 l0 (x3_1 ++ [t369]) (x4_1 ++ [t365]) (wrap64 (x5_1 + 1))) else (none)) else (none)) else (some false))) else (some false)) = some r := H
       have A10 := Aside0.mk A100
       clear A100
       by_cases c11 : t373 = t366
       ·rw [if_pos c11] at H
        have c11b0 : (t373 == t366) = true := beq_iff_eq.mpr c11
        have c11b1 : (t373 != t366) = false := bne_eq_false_iff_eq.mpr c11
        clear c11
        replace H := Option.bind_eq_some_iff.mp H
        obtain ⟨t374, A120, H⟩ := H
        replace H : (if t374 = true then (if x3_1.length < 5864062014805 then (if x4_1.length < 5864062014805 then (postbaglaw4_SpanParses.l0 k1 l0 (x3_1 ++ [t369]) (x4_1 ++ [t365]) (wrap64 (x5_1 + 1))) else (none)) else (none)) else (some false)) = some r := H
        have A12 := Aside0.mk A120
        clear A120
        by_cases c13 : t374 = true
        ·subst c13
         have H1 : (if x3_1.length < 5864062014805 then (if x4_1.length < 5864062014805 then (postbaglaw4_SpanParses.l0 k1 l0 (x3_1 ++ [t369]) (x4_1 ++ [t365]) (wrap64 (x5_1 + 1))) else (none)) else (none)) = some r := by rw [if_pos rfl] at H; exact H
         clear H
         have H := H1
         clear H1
         by_cases c14 : x3_1.length < 5864062014805
         ·rw [if_pos c14] at H
          have LMc14 := Aside0.mk c14
          clear c14
          obtain ⟨y375, hy375⟩ : ∃ y_ : List (List (S28)), y_ = (x3_1 ++ [t369]) := ⟨_, rfl⟩
          replace H : (if x4_1.length < 5864062014805 then (postbaglaw4_SpanParses.l0 k1 l0 y375 (x4_1 ++ [t365]) (wrap64 (x5_1 + 1))) else (none)) = some r := by first | (rw [hy375]; with_reducible exact H) | (have H2_ := (Option.bind_some _ _).symm.trans H; rw [hy375]; with_reducible exact H2_) | (have H2_ := (Option.bind_some _ _).symm.trans H; with_reducible exact H2_) | with_reducible exact H | (rw [hy375]; exact H) | exact H
          have Ny375 := Aside0.mk hy375
          clear hy375
          by_cases c15 : x4_1.length < 5864062014805
          ·rw [if_pos c15] at H
           have LMc15 := Aside0.mk c15
           clear c15
           obtain ⟨y378, hy378⟩ : ∃ y_ : List (List (S28)), y_ = (x4_1 ++ [t365]) := ⟨_, rfl⟩
           replace H : (postbaglaw4_SpanParses.l0 k1 l0 y375 y378 (wrap64 (x5_1 + 1))) = some r := by first | (rw [hy378]; with_reducible exact H) | (have H2_ := (Option.bind_some _ _).symm.trans H; rw [hy378]; with_reducible exact H2_) | (have H2_ := (Option.bind_some _ _).symm.trans H; with_reducible exact H2_) | with_reducible exact H | (rw [hy378]; exact H) | exact H
           have Ny378 := Aside0.mk hy378
           clear hy378
           have H' := Aside0.mk H
           clear H
           go_wp2_with (first | (go_at_call 22; (with_reducible refine (postbaglaw4_turn.calls x5_1 (l0.length : Int) t363 _ A5.out).mono ?_); rintro e w' ⟨rfl, ⟨nd, rfl⟩⟩; (try first | exact ⟨rfl, _, World.drewN_drewN _ _ _⟩ | exact ⟨rfl, _, Eq.trans (World.drewN_drewN _ _ _) (congrArg (World.drewN _) (Nat.add_assoc _ _ _))⟩); have p364 : 0 ≤ (t363 : Int) := of_decide_eq_true (by first | (with_reducible assumption) | assumption); have q364 : t363 < (l0.length : Int) := of_decide_eq_true (by first | (with_reducible assumption) | assumption); obtain ⟨ad364, A364_1, c364_1, A364_4, c364_4, A364_5, c364_5, e364, hx364_0, hx364_1, hx364_2, hx364_3, hx364_4, hx364_5, hl364_1, hi364_1, hl364_4, hi364_4, hl364_5, hi364_5⟩ := at_T38 HR0.out t363 p364 q364; cases e364; replace hx364_0 := (HB.out.cell (World.block_lt_of_cell? w _ hx364_0)).trans hx364_0; replace hx364_1 := (HB.out.cell (World.block_lt_of_cell? w _ hx364_1)).trans hx364_1; replace hx364_2 := (HB.out.cell (World.block_lt_of_cell? w _ hx364_2)).trans hx364_2; replace hx364_3 := (HB.out.cell (World.block_lt_of_cell? w _ hx364_3)).trans hx364_3; replace hx364_4 := (HB.out.cell (World.block_lt_of_cell? w _ hx364_4)).trans hx364_4; replace hx364_5 := (HB.out.cell (World.block_lt_of_cell? w _ hx364_5)).trans hx364_5; have HR364_1 := Aside0.mk hi364_1; have HC364_1 := Aside0.mk hl364_1; clear hi364_1 hl364_1; have HR364_4 := Aside0.mk hi364_4; have HC364_4 := Aside0.mk hl364_4; clear hi364_4 hl364_4; have HR364_5 := Aside0.mk hi364_5; have HC364_5 := Aside0.mk hl364_5; clear hi364_5 hl364_5; replace p364 := eq_true p364; replace q364 := eq_true q364) | (go_at_call 24; (with_reducible refine (postbagref4_Parse.calls k1 ((rd_T38 l0 t363).f0) t365 t366 _ A8.out).mono ?_); rintro e w16 ⟨v367, rfl, ho0, hb⟩; have n0_ := Aside0.mk (Kd.S_elder' (by (with_reducible repeat (first | apply Kd.S_alloc | apply Kd.S_drewN | apply Kd.S_drew)); exact HO_3.out) (Kd.R_base ho0) hb); have n1_ := Aside0.mk (Kd.S_elder' (by (with_reducible repeat (first | apply Kd.S_alloc | apply Kd.S_drewN | apply Kd.S_drew)); exact HO_4.out) (Kd.R_base ho0) hb); have n2_ := Aside0.mk (Kd.R_lower ho0 (below_size (by repeat (first | (with_reducible first | exact HB.out | apply below_alloc | apply pw_below_drewN | apply below_drew1) | exact HB.out)))); have n3_ := Aside0.mk (below_step (by repeat (first | (with_reducible first | exact HB.out | apply below_alloc | apply pw_below_drewN | apply below_drew1) | exact HB.out)) hb); clear HO_3; clear HO_4; clear HB; have HO_3 := n0_; have HO_4 := n1_; have HO368 := n2_; have HB := n3_; clear n0_ n1_ n2_ n3_; (try clear hb); (try clear hb2); (try clear hk); (try clear hi); (try clear ho0)) | (go_at_call 23; (with_reducible refine (span_Parse.calls ((rd_T38 l0 t363).f0) t369 t370 _ A9.out).mono ?_); rintro e w17 ⟨v371, rfl, ho0, hb⟩; have n0_ := Aside0.mk (Kd.S_elder' (by (with_reducible repeat (first | apply Kd.S_alloc | apply Kd.S_drewN | apply Kd.S_drew)); exact HO_3.out) (Kd.R_base ho0) hb); have n1_ := Aside0.mk (Kd.S_elder' (by (with_reducible repeat (first | apply Kd.S_alloc | apply Kd.S_drewN | apply Kd.S_drew)); exact HO_4.out) (Kd.R_base ho0) hb); have n2_ := Aside0.mk (Kd.R_elder' (by (with_reducible repeat (first | apply Kd.R_alloc | apply Kd.R_drewN | apply Kd.R_drew)); exact HO368.out) (Kd.R_base ho0) hb); have n3_ := Aside0.mk (Kd.R_lower (Kd.R_new' ho0 (Kd.R_lt (by (with_reducible repeat (first | apply Kd.R_alloc | apply Kd.R_drewN | apply Kd.R_drew)); exact HO368.out))) (below_size (by repeat (first | (with_reducible first | exact HB.out | apply below_alloc | apply pw_below_drewN | apply below_drew1) | exact HB.out)))); have n4_ := Aside0.mk (below_step (by repeat (first | (with_reducible first | exact HB.out | apply below_alloc | apply pw_below_drewN | apply below_drew1) | exact HB.out)) hb); clear HO_3; clear HO_4; clear HO368; clear HB; have HO_3 := n0_; have HO_4 := n1_; have HO368 := n2_; have HO372 := n3_; have HB := n4_; clear n0_ n1_ n2_ n3_ n4_; (try clear hb); (try clear hb2); (try clear hk); (try clear hi); (try clear ho0)) | (go_at_call 34; (with_reducible refine (postbaglaw4_num.calls t370 t373 _ A10.out).mono ?_); rintro e w' ⟨rfl, ⟨nd, rfl⟩⟩; (try first | exact ⟨rfl, _, World.drewN_drewN _ _ _⟩ | exact ⟨rfl, _, Eq.trans (World.drewN_drewN _ _ _) (congrArg (World.drewN _) (Nat.add_assoc _ _ _))⟩); obtain ⟨Ao18, co18, eo18⟩ := Kd.R_slice HO372.out; subst eo18; obtain ⟨Ao19, co19, eo19⟩ := Kd.R_slice HO368.out; subst eo19) | (go_at_call 26; (with_reducible refine (postbaglaw4_same.calls k1 _ _ t369 _ _ t365 true _ ?side1 ?side2 ?side3 ?side4 A12.out).mono ?_); (case side1 => repeat (first | exact (Kd.R_reads' HO372.out).2.2 | (with_reducible refine Kd.C_alloc ?_ _) | (with_reducible refine Kd.C_drewN ?_ _) | (with_reducible refine Kd.C_drew ?_))); (case side2 => exact (Kd.R_reads' HO372.out).2.1); (case side3 => repeat (first | exact (Kd.R_reads' HO368.out).2.2 | (with_reducible refine Kd.C_alloc ?_ _) | (with_reducible refine Kd.C_drewN ?_ _) | (with_reducible refine Kd.C_drew ?_))); (case side4 => exact (Kd.R_reads' HO368.out).2.1); rintro e w' ⟨rfl, ⟨nd, rfl⟩⟩; (try first | exact ⟨rfl, _, World.drewN_drewN _ _ _⟩ | exact ⟨rfl, _, Eq.trans (World.drewN_drewN _ _ _) (congrArg (World.drewN _) (Nat.add_assoc _ _ _))⟩)) | ((with_reducible refine gate_builtin (b := .append) (xs := #[.tmp 49, .tmp 51]) rfl ?_); at_builtin; refine Kd.S_append (Kd.slice 28 k28) (w0 := w) w.heap.size rfl (.tmp 49) (.tmp 51) 35 23 (.slice none 0 0) 24 rfl Tryd.underlying35 info23 rfl (by decide) (by omega) u3 x3_1 t369 [.slice Ao18 t369.length co18] (fun k_ => some k_ ≠ (u4 : Value).ownBlock ∧ some k_ ≠ (.slice Ao19 t365.length co19 : Value).ownBlock) (fun k_ => some k_ = (.slice Ao18 t369.length co18 : Value).ownBlock) rfl rfl ?aP (fun k_ hk_ => ((Kd.R_mono (ok' := fun k_ => ((fun k_ => some k_ ≠ (u4 : Value).ownBlock ∧ some k_ ≠ (.slice Ao19 t365.length co19 : Value).ownBlock)) k_ ∧ some k_ ≠ (u3 : Value).ownBlock) (Kd.R_apart' (Kd.R_apart' (HO372.out) (Kd.S_typed HO_4.out) (by decide)) (Kd.S_typed HO_3.out) (by decide)) (fun k_ hk => ⟨⟨hk.1.2, hk.1.1.2⟩, hk.2⟩))).1 k_ hk_.symm) ?aF ?aO ?aB ?aS ?aL ?_; (case aP => exact Kd.M_row (Kd.R_mono (Kd.R_tight rfl (Kd.R_mono (ok' := fun k_ => ((fun k_ => some k_ ≠ (u4 : Value).ownBlock ∧ some k_ ≠ (.slice Ao19 t365.length co19 : Value).ownBlock)) k_ ∧ some k_ ≠ (u3 : Value).ownBlock) (Kd.R_apart' (Kd.R_apart' (HO372.out) (Kd.S_typed HO_4.out) (by decide)) (Kd.S_typed HO_3.out) (by decide)) (fun k_ hk => ⟨⟨hk.1.2, hk.1.1.2⟩, hk.2⟩))) (fun _ h_ => h_))); (case aB => exact (by repeat (first | (with_reducible first | exact HB.out | apply below_alloc | apply pw_below_drewN | apply below_drew1) | exact HB.out))); (case aF => exact (fun k_ hk => ⟨Kd.fresh' (Kd.S_lt (by (with_reducible repeat (first | apply Kd.S_alloc | apply Kd.S_drewN | apply Kd.S_drew)); exact HO_4.out)) k_ hk, Kd.fresh' (Kd.R_lt (by (with_reducible repeat (first | apply Kd.R_alloc | apply Kd.R_drewN | apply Kd.R_drew)); exact HO368.out)) k_ hk⟩)); (case aO => exact (by (with_reducible repeat (first | apply Kd.S_alloc | apply Kd.S_drewN | apply Kd.S_drew)); exact Kd.S_mono HO_3.out (fun k_ hk => ⟨⟨hk.1.1, hk.1.2⟩, fun e_ => hk.2 e_⟩))); (case aS => exact (below_size (by repeat (first | (with_reducible first | exact HB.out | apply below_alloc | apply pw_below_drewN | apply below_drew1) | exact HB.out)))); (case aL => have := LMc14.out; omega); intro v376 w20 ho hb hg hat; rw [← Ny375.out] at ho; have n0_ := Aside0.mk (Kd.S_after (ok := (fun k_ => some k_ ≠ (.slice Ao19 t365.length co19 : Value).ownBlock ∧ some k_ ≠ (.slice Ao18 t369.length co18 : Value).ownBlock)) (by (with_reducible repeat (first | apply Kd.S_alloc | apply Kd.S_drewN | apply Kd.S_drew)); exact Kd.S_mono HO_4.out (fun _ hk => ⟨⟨hk.1.2, hk.2⟩, hk.1.1⟩)) hg hat); have n1_ := Aside0.mk (Kd.R_over' (by (with_reducible repeat (first | apply Kd.R_alloc | apply Kd.R_drewN | apply Kd.R_drew)); exact HO368.out) (Kd.S_typed (by (with_reducible repeat (first | apply Kd.S_alloc | apply Kd.S_drewN | apply Kd.S_drew)); exact HO_3.out)) (by decide) hg); have n2_ := Aside0.mk (hb); have n3_ := Aside0.mk (ho); clear HO_4; clear HO368; clear HB; clear HO_3; clear HO372; have HO_4 := n0_; have HO368 := n1_; have HB := n2_; have HO377 := n3_; clear n0_ n1_ n2_ n3_; clear ho hb hg hat) | ((with_reducible refine gate_builtin (b := .append) (xs := #[.tmp 53, .tmp 55]) rfl ?_); at_builtin; refine Kd.S_append (Kd.slice 28 k28) (w0 := w) w.heap.size rfl (.tmp 53) (.tmp 55) 35 23 (.slice none 0 0) 24 rfl Tryd.underlying35 info23 rfl (by decide) (by omega) u4 x4_1 t365 [.slice Ao19 t365.length co19] (fun k_ => some k_ ≠ (v376 : Value).ownBlock) (fun k_ => some k_ = (.slice Ao19 t365.length co19 : Value).ownBlock) rfl rfl ?aP (fun k_ hk_ => ((Kd.R_mono (ok' := fun k_ => ((fun k_ => some k_ ≠ (v376 : Value).ownBlock)) k_ ∧ some k_ ≠ (u4 : Value).ownBlock) (Kd.R_apart' (Kd.R_apart' (HO368.out) (Kd.S_typed HO377.out) (by decide)) (Kd.S_typed HO_4.out) (by decide)) (fun k_ hk => ⟨hk.1.2, hk.2⟩))).1 k_ hk_.symm) ?aF ?aO ?aB ?aS ?aL ?_; (case aP => exact Kd.M_row (Kd.R_mono (Kd.R_tight rfl (Kd.R_mono (ok' := fun k_ => ((fun k_ => some k_ ≠ (v376 : Value).ownBlock)) k_ ∧ some k_ ≠ (u4 : Value).ownBlock) (Kd.R_apart' (Kd.R_apart' (HO368.out) (Kd.S_typed HO377.out) (by decide)) (Kd.S_typed HO_4.out) (by decide)) (fun k_ hk => ⟨hk.1.2, hk.2⟩))) (fun _ h_ => h_))); (case aB => exact (by repeat (first | (with_reducible first | exact HB.out | apply below_alloc | apply pw_below_drewN | apply below_drew1) | exact HB.out))); (case aF => exact (fun k_ hk => Kd.fresh' (Kd.S_lt (by (with_reducible repeat (first | apply Kd.S_alloc | apply Kd.S_drewN | apply Kd.S_drew)); exact HO377.out)) k_ hk)); (case aO => exact (by (with_reducible repeat (first | apply Kd.S_alloc | apply Kd.S_drewN | apply Kd.S_drew)); exact Kd.S_mono HO_4.out (fun k_ hk => ⟨hk.2, fun e_ => hk.1.1 e_⟩))); (case aS => exact (below_size (by repeat (first | (with_reducible first | exact HB.out | apply below_alloc | apply pw_below_drewN | apply below_drew1) | exact HB.out)))); (case aL => have := LMc15.out; omega); intro v379 w21 ho hb hg hat; rw [← Ny378.out] at ho; have n0_ := Aside0.mk (Kd.S_after (ok := (fun k_ => some k_ ≠ (.slice Ao19 t365.length co19 : Value).ownBlock)) (by (with_reducible repeat (first | apply Kd.S_alloc | apply Kd.S_drewN | apply Kd.S_drew)); exact Kd.S_mono HO377.out (fun _ hk => ⟨hk.2, hk.1⟩)) hg hat); have n1_ := Aside0.mk (hb); have n2_ := Aside0.mk (ho); clear HO377; clear HB; clear HO_4; clear HO368; have HO377 := n0_; have HB := n1_; have HO380 := n2_; clear n0_ n1_ n2_; clear ho hb hg hat))
           repeat (go_quiet (first | (go_at_call 22; (with_reducible refine (postbaglaw4_turn.calls x5_1 (l0.length : Int) t363 _ A5.out).mono ?_); rintro e w' ⟨rfl, ⟨nd, rfl⟩⟩; (try first | exact ⟨rfl, _, World.drewN_drewN _ _ _⟩ | exact ⟨rfl, _, Eq.trans (World.drewN_drewN _ _ _) (congrArg (World.drewN _) (Nat.add_assoc _ _ _))⟩); have p364 : 0 ≤ (t363 : Int) := of_decide_eq_true (by first | (with_reducible assumption) | assumption); have q364 : t363 < (l0.length : Int) := of_decide_eq_true (by first | (with_reducible assumption) | assumption); obtain ⟨ad364, A364_1, c364_1, A364_4, c364_4, A364_5, c364_5, e364, hx364_0, hx364_1, hx364_2, hx364_3, hx364_4, hx364_5, hl364_1, hi364_1, hl364_4, hi364_4, hl364_5, hi364_5⟩ := at_T38 HR0.out t363 p364 q364; cases e364; replace hx364_0 := (HB.out.cell (World.block_lt_of_cell? w _ hx364_0)).trans hx364_0; replace hx364_1 := (HB.out.cell (World.block_lt_of_cell? w _ hx364_1)).trans hx364_1; replace hx364_2 := (HB.out.cell (World.block_lt_of_cell? w _ hx364_2)).trans hx364_2; replace hx364_3 := (HB.out.cell (World.block_lt_of_cell? w _ hx364_3)).trans hx364_3; replace hx364_4 := (HB.out.cell (World.block_lt_of_cell? w _ hx364_4)).trans hx364_4; replace hx364_5 := (HB.out.cell (World.block_lt_of_cell? w _ hx364_5)).trans hx364_5; have HR364_1 := Aside0.mk hi364_1; have HC364_1 := Aside0.mk hl364_1; clear hi364_1 hl364_1; have HR364_4 := Aside0.mk hi364_4; have HC364_4 := Aside0.mk hl364_4; clear hi364_4 hl364_4; have HR364_5 := Aside0.mk hi364_5; have HC364_5 := Aside0.mk hl364_5; clear hi364_5 hl364_5; replace p364 := eq_true p364; replace q364 := eq_true q364) | (go_at_call 24; (with_reducible refine (postbagref4_Parse.calls k1 ((rd_T38 l0 t363).f0) t365 t366 _ A8.out).mono ?_); rintro e w16 ⟨v367, rfl, ho0, hb⟩; have n0_ := Aside0.mk (Kd.S_elder' (by (with_reducible repeat (first | apply Kd.S_alloc | apply Kd.S_drewN | apply Kd.S_drew)); exact HO_3.out) (Kd.R_base ho0) hb); have n1_ := Aside0.mk (Kd.S_elder' (by (with_reducible repeat (first | apply Kd.S_alloc | apply Kd.S_drewN | apply Kd.S_drew)); exact HO_4.out) (Kd.R_base ho0) hb); have n2_ := Aside0.mk (Kd.R_lower ho0 (below_size (by repeat (first | (with_reducible first | exact HB.out | apply below_alloc | apply pw_below_drewN | apply below_drew1) | exact HB.out)))); have n3_ := Aside0.mk (below_step (by repeat (first | (with_reducible first | exact HB.out | apply below_alloc | apply pw_below_drewN | apply below_drew1) | exact HB.out)) hb); clear HO_3; clear HO_4; clear HB; have HO_3 := n0_; have HO_4 := n1_; have HO368 := n2_; have HB := n3_; clear n0_ n1_ n2_ n3_; (try clear hb); (try clear hb2); (try clear hk); (try clear hi); (try clear ho0)) | (go_at_call 23; (with_reducible refine (span_Parse.calls ((rd_T38 l0 t363).f0) t369 t370 _ A9.out).mono ?_); rintro e w17 ⟨v371, rfl, ho0, hb⟩; have n0_ := Aside0.mk (Kd.S_elder' (by (with_reducible repeat (first | apply Kd.S_alloc | apply Kd.S_drewN | apply Kd.S_drew)); exact HO_3.out) (Kd.R_base ho0) hb); have n1_ := Aside0.mk (Kd.S_elder' (by (with_reducible repeat (first | apply Kd.S_alloc | apply Kd.S_drewN | apply Kd.S_drew)); exact HO_4.out) (Kd.R_base ho0) hb); have n2_ := Aside0.mk (Kd.R_elder' (by (with_reducible repeat (first | apply Kd.R_alloc | apply Kd.R_drewN | apply Kd.R_drew)); exact HO368.out) (Kd.R_base ho0) hb); have n3_ := Aside0.mk (Kd.R_lower (Kd.R_new' ho0 (Kd.R_lt (by (with_reducible repeat (first | apply Kd.R_alloc | apply Kd.R_drewN | apply Kd.R_drew)); exact HO368.out))) (below_size (by repeat (first | (with_reducible first | exact HB.out | apply below_alloc | apply pw_below_drewN | apply below_drew1) | exact HB.out)))); have n4_ := Aside0.mk (below_step (by repeat (first | (with_reducible first | exact HB.out | apply below_alloc | apply pw_below_drewN | apply below_drew1) | exact HB.out)) hb); clear HO_3; clear HO_4; clear HO368; clear HB; have HO_3 := n0_; have HO_4 := n1_; have HO368 := n2_; have HO372 := n3_; have HB := n4_; clear n0_ n1_ n2_ n3_ n4_; (try clear hb); (try clear hb2); (try clear hk); (try clear hi); (try clear ho0)) | (go_at_call 34; (with_reducible refine (postbaglaw4_num.calls t370 t373 _ A10.out).mono ?_); rintro e w' ⟨rfl, ⟨nd, rfl⟩⟩; (try first | exact ⟨rfl, _, World.drewN_drewN _ _ _⟩ | exact ⟨rfl, _, Eq.trans (World.drewN_drewN _ _ _) (congrArg (World.drewN _) (Nat.add_assoc _ _ _))⟩); obtain ⟨Ao18, co18, eo18⟩ := Kd.R_slice HO372.out; subst eo18; obtain ⟨Ao19, co19, eo19⟩ := Kd.R_slice HO368.out; subst eo19) | (go_at_call 26; (with_reducible refine (postbaglaw4_same.calls k1 _ _ t369 _ _ t365 true _ ?side1 ?side2 ?side3 ?side4 A12.out).mono ?_); (case side1 => repeat (first | exact (Kd.R_reads' HO372.out).2.2 | (with_reducible refine Kd.C_alloc ?_ _) | (with_reducible refine Kd.C_drewN ?_ _) | (with_reducible refine Kd.C_drew ?_))); (case side2 => exact (Kd.R_reads' HO372.out).2.1); (case side3 => repeat (first | exact (Kd.R_reads' HO368.out).2.2 | (with_reducible refine Kd.C_alloc ?_ _) | (with_reducible refine Kd.C_drewN ?_ _) | (with_reducible refine Kd.C_drew ?_))); (case side4 => exact (Kd.R_reads' HO368.out).2.1); rintro e w' ⟨rfl, ⟨nd, rfl⟩⟩; (try first | exact ⟨rfl, _, World.drewN_drewN _ _ _⟩ | exact ⟨rfl, _, Eq.trans (World.drewN_drewN _ _ _) (congrArg (World.drewN _) (Nat.add_assoc _ _ _))⟩)) | ((with_reducible refine gate_builtin (b := .append) (xs := #[.tmp 49, .tmp 51]) rfl ?_); at_builtin; refine Kd.S_append (Kd.slice 28 k28) (w0 := w) w.heap.size rfl (.tmp 49) (.tmp 51) 35 23 (.slice none 0 0) 24 rfl Tryd.underlying35 info23 rfl (by decide) (by omega) u3 x3_1 t369 [.slice Ao18 t369.length co18] (fun k_ => some k_ ≠ (u4 : Value).ownBlock ∧ some k_ ≠ (.slice Ao19 t365.length co19 : Value).ownBlock) (fun k_ => some k_ = (.slice Ao18 t369.length co18 : Value).ownBlock) rfl rfl ?aP (fun k_ hk_ => ((Kd.R_mono (ok' := fun k_ => ((fun k_ => some k_ ≠ (u4 : Value).ownBlock ∧ some k_ ≠ (.slice Ao19 t365.length co19 : Value).ownBlock)) k_ ∧ some k_ ≠ (u3 : Value).ownBlock) (Kd.R_apart' (Kd.R_apart' (HO372.out) (Kd.S_typed HO_4.out) (by decide)) (Kd.S_typed HO_3.out) (by decide)) (fun k_ hk => ⟨⟨hk.1.2, hk.1.1.2⟩, hk.2⟩))).1 k_ hk_.symm) ?aF ?aO ?aB ?aS ?aL ?_; (case aP => exact Kd.M_row (Kd.R_mono (Kd.R_tight rfl (Kd.R_mono (ok' := fun k_ => ((fun k_ => some k_ ≠ (u4 : Value).ownBlock ∧ some k_ ≠ (.slice Ao19 t365.length co19 : Value).ownBlock)) k_ ∧ some k_ ≠ (u3 : Value).ownBlock) (Kd.R_apart' (Kd.R_apart' (HO372.out) (Kd.S_typed HO_4.out) (by decide)) (Kd.S_typed HO_3.out) (by decide)) (fun k_ hk => ⟨⟨hk.1.2, hk.1.1.2⟩, hk.2⟩))) (fun _ h_ => h_))); (case aB => exact (by repeat (first | (with_reducible first | exact HB.out | apply below_alloc | apply pw_below_drewN | apply below_drew1) | exact HB.out))); (case aF => exact (fun k_ hk => ⟨Kd.fresh' (Kd.S_lt (by (with_reducible repeat (first | apply Kd.S_alloc | apply Kd.S_drewN | apply Kd.S_drew)); exact HO_4.out)) k_ hk, Kd.fresh' (Kd.R_lt (by (with_reducible repeat (first | apply Kd.R_alloc | apply Kd.R_drewN | apply Kd.R_drew)); exact HO368.out)) k_ hk⟩)); (case aO => exact (by (with_reducible repeat (first | apply Kd.S_alloc | apply Kd.S_drewN | apply Kd.S_drew)); exact Kd.S_mono HO_3.out (fun k_ hk => ⟨⟨hk.1.1, hk.1.2⟩, fun e_ => hk.2 e_⟩))); (case aS => exact (below_size (by repeat (first | (with_reducible first | exact HB.out | apply below_alloc | apply pw_below_drewN | apply below_drew1) | exact HB.out)))); (case aL => have := LMc14.out; omega); intro v376 w20 ho hb hg hat; rw [← Ny375.out] at ho; have n0_ := Aside0.mk (Kd.S_after (ok := (fun k_ => some k_ ≠ (.slice Ao19 t365.length co19 : Value).ownBlock ∧ some k_ ≠ (.slice Ao18 t369.length co18 : Value).ownBlock)) (by (with_reducible repeat (first | apply Kd.S_alloc | apply Kd.S_drewN | apply Kd.S_drew)); exact Kd.S_mono HO_4.out (fun _ hk => ⟨⟨hk.1.2, hk.2⟩, hk.1.1⟩)) hg hat); have n1_ := Aside0.mk (Kd.R_over' (by (with_reducible repeat (first | apply Kd.R_alloc | apply Kd.R_drewN | apply Kd.R_drew)); exact HO368.out) (Kd.S_typed (by (with_reducible repeat (first | apply Kd.S_alloc | apply Kd.S_drewN | apply Kd.S_drew)); exact HO_3.out)) (by decide) hg); have n2_ := Aside0.mk (hb); have n3_ := Aside0.mk (ho); clear HO_4; clear HO368; clear HB; clear HO_3; clear HO372; have HO_4 := n0_; have HO368 := n1_; have HB := n2_; have HO377 := n3_; clear n0_ n1_ n2_ n3_; clear ho hb hg hat) | ((with_reducible refine gate_builtin (b := .append) (xs := #[.tmp 53, .tmp 55]) rfl ?_); at_builtin; refine Kd.S_append (Kd.slice 28 k28) (w0 := w) w.heap.size rfl (.tmp 53) (.tmp 55) 35 23 (.slice none 0 0) 24 rfl Tryd.underlying35 info23 rfl (by decide) (by omega) u4 x4_1 t365 [.slice Ao19 t365.length co19] (fun k_ => some k_ ≠ (v376 : Value).ownBlock) (fun k_ => some k_ = (.slice Ao19 t365.length co19 : Value).ownBlock) rfl rfl ?aP (fun k_ hk_ => ((Kd.R_mono (ok' := fun k_ => ((fun k_ => some k_ ≠ (v376 : Value).ownBlock)) k_ ∧ some k_ ≠ (u4 : Value).ownBlock) (Kd.R_apart' (Kd.R_apart' (HO368.out) (Kd.S_typed HO377.out) (by decide)) (Kd.S_typed HO_4.out) (by decide)) (fun k_ hk => ⟨hk.1.2, hk.2⟩))).1 k_ hk_.symm) ?aF ?aO ?aB ?aS ?aL ?_; (case aP => exact Kd.M_row (Kd.R_mono (Kd.R_tight rfl (Kd.R_mono (ok' := fun k_ => ((fun k_ => some k_ ≠ (v376 : Value).ownBlock)) k_ ∧ some k_ ≠ (u4 : Value).ownBlock) (Kd.R_apart' (Kd.R_apart' (HO368.out) (Kd.S_typed HO377.out) (by decide)) (Kd.S_typed HO_4.out) (by decide)) (fun k_ hk => ⟨hk.1.2, hk.2⟩))) (fun _ h_ => h_))); (case aB => exact (by repeat (first | (with_reducible first | exact HB.out | apply below_alloc | apply pw_below_drewN | apply below_drew1) | exact HB.out))); (case aF => exact (fun k_ hk => Kd.fresh' (Kd.S_lt (by (with_reducible repeat (first | apply Kd.S_alloc | apply Kd.S_drewN | apply Kd.S_drew)); exact HO377.out)) k_ hk)); (case aO => exact (by (with_reducible repeat (first | apply Kd.S_alloc | apply Kd.S_drewN | apply Kd.S_drew)); exact Kd.S_mono HO_4.out (fun k_ hk => ⟨hk.2, fun e_ => hk.1.1 e_⟩))); (case aS => exact (below_size (by repeat (first | (with_reducible first | exact HB.out | apply below_alloc | apply pw_below_drewN | apply below_drew1) | exact HB.out)))); (case aL => have := LMc15.out; omega); intro v379 w21 ho hb hg hat; rw [← Ny378.out] at ho; have n0_ := Aside0.mk (Kd.S_after (ok := (fun k_ => some k_ ≠ (.slice Ao19 t365.length co19 : Value).ownBlock)) (by (with_reducible repeat (first | apply Kd.S_alloc | apply Kd.S_drewN | apply Kd.S_drew)); exact Kd.S_mono HO377.out (fun _ hk => ⟨hk.2, hk.1⟩)) hg hat); have n1_ := Aside0.mk (hb); have n2_ := Aside0.mk (ho); clear HO377; clear HB; clear HO_4; clear HO368; have HO377 := n0_; have HB := n1_; have HO380 := n2_; clear n0_ n1_ n2_; clear ho hb hg hat)); try go_wp2_with (first | (go_at_call 22; (with_reducible refine (postbaglaw4_turn.calls x5_1 (l0.length : Int) t363 _ A5.out).mono ?_); rintro e w' ⟨rfl, ⟨nd, rfl⟩⟩; (try first | exact ⟨rfl, _, World.drewN_drewN _ _ _⟩ | exact ⟨rfl, _, Eq.trans (World.drewN_drewN _ _ _) (congrArg (World.drewN _) (Nat.add_assoc _ _ _))⟩); have p364 : 0 ≤ (t363 : Int) := of_decide_eq_true (by first | (with_reducible assumption) | assumption); have q364 : t363 < (l0.length : Int) := of_decide_eq_true (by first | (with_reducible assumption) | assumption); obtain ⟨ad364, A364_1, c364_1, A364_4, c364_4, A364_5, c364_5, e364, hx364_0, hx364_1, hx364_2, hx364_3, hx364_4, hx364_5, hl364_1, hi364_1, hl364_4, hi364_4, hl364_5, hi364_5⟩ := at_T38 HR0.out t363 p364 q364; cases e364; replace hx364_0 := (HB.out.cell (World.block_lt_of_cell? w _ hx364_0)).trans hx364_0; replace hx364_1 := (HB.out.cell (World.block_lt_of_cell? w _ hx364_1)).trans hx364_1; replace hx364_2 := (HB.out.cell (World.block_lt_of_cell? w _ hx364_2)).trans hx364_2; replace hx364_3 := (HB.out.cell (World.block_lt_of_cell? w _ hx364_3)).trans hx364_3; replace hx364_4 := (HB.out.cell (World.block_lt_of_cell? w _ hx364_4)).trans hx364_4; replace hx364_5 := (HB.out.cell (World.block_lt_of_cell? w _ hx364_5)).trans hx364_5; have HR364_1 := Aside0.mk hi364_1; have HC364_1 := Aside0.mk hl364_1; clear hi364_1 hl364_1; have HR364_4 := Aside0.mk hi364_4; have HC364_4 := Aside0.mk hl364_4; clear hi364_4 hl364_4; have HR364_5 := Aside0.mk hi364_5; have HC364_5 := Aside0.mk hl364_5; clear hi364_5 hl364_5; replace p364 := eq_true p364; replace q364 := eq_true q364) | (go_at_call 24; (with_reducible refine (postbagref4_Parse.calls k1 ((rd_T38 l0 t363).f0) t365 t366 _ A8.out).mono ?_); rintro e w16 ⟨v367, rfl, ho0, hb⟩; have n0_ := Aside0.mk (Kd.S_elder' (by (with_reducible repeat (first | apply Kd.S_alloc | apply Kd.S_drewN | apply Kd.S_drew)); exact HO_3.out) (Kd.R_base ho0) hb); have n1_ := Aside0.mk (Kd.S_elder' (by (with_reducible repeat (first | apply Kd.S_alloc | apply Kd.S_drewN | apply Kd.S_drew)); exact HO_4.out) (Kd.R_base ho0) hb); have n2_ := Aside0.mk (Kd.R_lower ho0 (below_size (by repeat (first | (with_reducible first | exact HB.out | apply below_alloc | apply pw_below_drewN | apply below_drew1) | exact HB.out)))); have n3_ := Aside0.mk (below_step (by repeat (first | (with_reducible first | exact HB.out | apply below_alloc | apply pw_below_drewN | apply below_drew1) | exact HB.out)) hb); clear HO_3; clear HO_4; clear HB; have HO_3 := n0_; have HO_4 := n1_; have HO368 := n2_; have HB := n3_; clear n0_ n1_ n2_ n3_; (try clear hb); (try clear hb2); (try clear hk); (try clear hi); (try clear ho0)) | (go_at_call 23; (with_reducible refine (span_Parse.calls ((rd_T38 l0 t363).f0) t369 t370 _ A9.out).mono ?_); rintro e w17 ⟨v371, rfl, ho0, hb⟩; have n0_ := Aside0.mk (Kd.S_elder' (by (with_reducible repeat (first | apply Kd.S_alloc | apply Kd.S_drewN | apply Kd.S_drew)); exact HO_3.out) (Kd.R_base ho0) hb); have n1_ := Aside0.mk (Kd.S_elder' (by (with_reducible repeat (first | apply Kd.S_alloc | apply Kd.S_drewN | apply Kd.S_drew)); exact HO_4.out) (Kd.R_base ho0) hb); have n2_ := Aside0.mk (Kd.R_elder' (by (with_reducible repeat (first | apply Kd.R_alloc | apply Kd.R_drewN | apply Kd.R_drew)); exact HO368.out) (Kd.R_base ho0) hb); have n3_ := Aside0.mk (Kd.R_lower (Kd.R_new' ho0 (Kd.R_lt (by (with_reducible repeat (first | apply Kd.R_alloc | apply Kd.R_drewN | apply Kd.R_drew)); exact HO368.out))) (below_size (by repeat (first | (with_reducible first | exact HB.out | apply below_alloc | apply pw_below_drewN | apply below_drew1) | exact HB.out)))); have n4_ := Aside0.mk (below_step (by repeat (first | (with_reducible first | exact HB.out | apply below_alloc | apply pw_below_drewN | apply below_drew1) | exact HB.out)) hb); clear HO_3; clear HO_4; clear HO368; clear HB; have HO_3 := n0_; have HO_4 := n1_; have HO368 := n2_; have HO372 := n3_; have HB := n4_; clear n0_ n1_ n2_ n3_ n4_; (try clear hb); (try clear hb2); (try clear hk); (try clear hi); (try clear ho0)) | (go_at_call 34; (with_reducible refine (postbaglaw4_num.calls t370 t373 _ A10.out).mono ?_); rintro e w' ⟨rfl, ⟨nd, rfl⟩⟩; (try first | exact ⟨rfl, _, World.drewN_drewN _ _ _⟩ | exact ⟨rfl, _, Eq.trans (World.drewN_drewN _ _ _) (congrArg (World.drewN _) (Nat.add_assoc _ _ _))⟩); obtain ⟨Ao18, co18, eo18⟩ := Kd.R_slice HO372.out; subst eo18; obtain ⟨Ao19, co19, eo19⟩ := Kd.R_slice HO368.out; subst eo19) | (go_at_call 26; (with_reducible refine (postbaglaw4_same.calls k1 _ _ t369 _ _ t365 true _ ?side1 ?side2 ?side3 ?side4 A12.out).mono ?_); (case side1 => repeat (first | exact (Kd.R_reads' HO372.out).2.2 | (with_reducible refine Kd.C_alloc ?_ _) | (with_reducible refine Kd.C_drewN ?_ _) | (with_reducible refine Kd.C_drew ?_))); (case side2 => exact (Kd.R_reads' HO372.out).2.1); (case side3 => repeat (first | exact (Kd.R_reads' HO368.out).2.2 | (with_reducible refine Kd.C_alloc ?_ _) | (with_reducible refine Kd.C_drewN ?_ _) | (with_reducible refine Kd.C_drew ?_))); (case side4 => exact (Kd.R_reads' HO368.out).2.1); rintro e w' ⟨rfl, ⟨nd, rfl⟩⟩; (try first | exact ⟨rfl, _, World.drewN_drewN _ _ _⟩ | exact ⟨rfl, _, Eq.trans (World.drewN_drewN _ _ _) (congrArg (World.drewN _) (Nat.add_assoc _ _ _))⟩)) | ((with_reducible refine gate_builtin (b := .append) (xs := #[.tmp 49, .tmp 51]) rfl ?_); at_builtin; refine Kd.S_append (Kd.slice 28 k28) (w0 := w) w.heap.size rfl (.tmp 49) (.tmp 51) 35 23 (.slice none 0 0) 24 rfl Tryd.underlying35 info23 rfl (by decide) (by omega) u3 x3_1 t369 [.slice Ao18 t369.length co18] (fun k_ => some k_ ≠ (u4 : Value).ownBlock ∧ some k_ ≠ (.slice Ao19 t365.length co19 : Value).ownBlock) (fun k_ => some k_ = (.slice Ao18 t369.length co18 : Value).ownBlock) rfl rfl ?aP (fun k_ hk_ => ((Kd.R_mono (ok' := fun k_ => ((fun k_ => some k_ ≠ (u4 : Value).ownBlock ∧ some k_ ≠ (.slice Ao19 t365.length co19 : Value).ownBlock)) k_ ∧ some k_ ≠ (u3 : Value).ownBlock) (Kd.R_apart' (Kd.R_apart' (HO372.out) (Kd.S_typed HO_4.out) (by decide)) (Kd.S_typed HO_3.out) (by decide)) (fun k_ hk => ⟨⟨hk.1.2, hk.1.1.2⟩, hk.2⟩))).1 k_ hk_.symm) ?aF ?aO ?aB ?aS ?aL ?_; (case aP => exact Kd.M_row (Kd.R_mono (Kd.R_tight rfl (Kd.R_mono (ok' := fun k_ => ((fun k_ => some k_ ≠ (u4 : Value).ownBlock ∧ some k_ ≠ (.slice Ao19 t365.length co19 : Value).ownBlock)) k_ ∧ some k_ ≠ (u3 : Value).ownBlock) (Kd.R_apart' (Kd.R_apart' (HO372.out) (Kd.S_typed HO_4.out) (by decide)) (Kd.S_typed HO_3.out) (by decide)) (fun k_ hk => ⟨⟨hk.1.2, hk.1.1.2⟩, hk.2⟩))) (fun _ h_ => h_))); (case aB => exact (by repeat (first | (with_reducible first | exact HB.out | apply below_alloc | apply pw_below_drewN | apply below_drew1) | exact HB.out))); (case aF => exact (fun k_ hk => ⟨Kd.fresh' (Kd.S_lt (by (with_reducible repeat (first | apply Kd.S_alloc | apply Kd.S_drewN | apply Kd.S_drew)); exact HO_4.out)) k_ hk, Kd.fresh' (Kd.R_lt (by (with_reducible repeat (first | apply Kd.R_alloc | apply Kd.R_drewN | apply Kd.R_drew)); exact HO368.out)) k_ hk⟩)); (case aO => exact (by (with_reducible repeat (first | apply Kd.S_alloc | apply Kd.S_drewN | apply Kd.S_drew)); exact Kd.S_mono HO_3.out (fun k_ hk => ⟨⟨hk.1.1, hk.1.2⟩, fun e_ => hk.2 e_⟩))); (case aS => exact (below_size (by repeat (first | (with_reducible first | exact HB.out | apply below_alloc | apply pw_below_drewN | apply below_drew1) | exact HB.out)))); (case aL => have := LMc14.out; omega); intro v376 w20 ho hb hg hat; rw [← Ny375.out] at ho; have n0_ := Aside0.mk (Kd.S_after (ok := (fun k_ => some k_ ≠ (.slice Ao19 t365.length co19 : Value).ownBlock ∧ some k_ ≠ (.slice Ao18 t369.length co18 : Value).ownBlock)) (by (with_reducible repeat (first | apply Kd.S_alloc | apply Kd.S_drewN | apply Kd.S_drew)); exact Kd.S_mono HO_4.out (fun _ hk => ⟨⟨hk.1.2, hk.2⟩, hk.1.1⟩)) hg hat); have n1_ := Aside0.mk (Kd.R_over' (by (with_reducible repeat (first | apply Kd.R_alloc | apply Kd.R_drewN | apply Kd.R_drew)); exact HO368.out) (Kd.S_typed (by (with_reducible repeat (first | apply Kd.S_alloc | apply Kd.S_drewN | apply Kd.S_drew)); exact HO_3.out)) (by decide) hg); have n2_ := Aside0.mk (hb); have n3_ := Aside0.mk (ho); clear HO_4; clear HO368; clear HB; clear HO_3; clear HO372; have HO_4 := n0_; have HO368 := n1_; have HB := n2_; have HO377 := n3_; clear n0_ n1_ n2_ n3_; clear ho hb hg hat) | ((with_reducible refine gate_builtin (b := .append) (xs := #[.tmp 53, .tmp 55]) rfl ?_); at_builtin; refine Kd.S_append (Kd.slice 28 k28) (w0 := w) w.heap.size rfl (.tmp 53) (.tmp 55) 35 23 (.slice none 0 0) 24 rfl Tryd.underlying35 info23 rfl (by decide) (by omega) u4 x4_1 t365 [.slice Ao19 t365.length co19] (fun k_ => some k_ ≠ (v376 : Value).ownBlock) (fun k_ => some k_ = (.slice Ao19 t365.length co19 : Value).ownBlock) rfl rfl ?aP (fun k_ hk_ => ((Kd.R_mono (ok' := fun k_ => ((fun k_ => some k_ ≠ (v376 : Value).ownBlock)) k_ ∧ some k_ ≠ (u4 : Value).ownBlock) (Kd.R_apart' (Kd.R_apart' (HO368.out) (Kd.S_typed HO377.out) (by decide)) (Kd.S_typed HO_4.out) (by decide)) (fun k_ hk => ⟨hk.1.2, hk.2⟩))).1 k_ hk_.symm) ?aF ?aO ?aB ?aS ?aL ?_; (case aP => exact Kd.M_row (Kd.R_mono (Kd.R_tight rfl (Kd.R_mono (ok' := fun k_ => ((fun k_ => some k_ ≠ (v376 : Value).ownBlock)) k_ ∧ some k_ ≠ (u4 : Value).ownBlock) (Kd.R_apart' (Kd.R_apart' (HO368.out) (Kd.S_typed HO377.out) (by decide)) (Kd.S_typed HO_4.out) (by decide)) (fun k_ hk => ⟨hk.1.2, hk.2⟩))) (fun _ h_ => h_))); (case aB => exact (by repeat (first | (with_reducible first | exact HB.out | apply below_alloc | apply pw_below_drewN | apply below_drew1) | exact HB.out))); (case aF => exact (fun k_ hk => Kd.fresh' (Kd.S_lt (by (with_reducible repeat (first | apply Kd.S_alloc | apply Kd.S_drewN | apply Kd.S_drew)); exact HO377.out)) k_ hk)); (case aO => exact (by (with_reducible repeat (first | apply Kd.S_alloc | apply Kd.S_drewN | apply Kd.S_drew)); exact Kd.S_mono HO_4.out (fun k_ hk => ⟨hk.2, fun e_ => hk.1.1 e_⟩))); (case aS => exact (below_size (by repeat (first | (with_reducible first | exact HB.out | apply below_alloc | apply pw_below_drewN | apply below_drew1) | exact HB.out)))); (case aL => have := LMc15.out; omega); intro v379 w21 ho hb hg hat; rw [← Ny378.out] at ho; have n0_ := Aside0.mk (Kd.S_after (ok := (fun k_ => some k_ ≠ (.slice Ao19 t365.length co19 : Value).ownBlock)) (by (with_reducible repeat (first | apply Kd.S_alloc | apply Kd.S_drewN | apply Kd.S_drew)); exact Kd.S_mono HO377.out (fun _ hk => ⟨hk.2, hk.1⟩)) hg hat); have n1_ := Aside0.mk (hb); have n2_ := Aside0.mk (ho); clear HO377; clear HB; clear HO_4; clear HO368; have HO377 := n0_; have HB := n1_; have HO380 := n2_; clear n0_ n1_ n2_; clear ho hb hg hat)))
           go_roundg k1
           case measure => have := HK1.out; omega
           case rel => exact ⟨(y375), (y378), (wrap64 (x5_1 + 1)), (by first | rfl | (simp; done) | (simp [*]; done)), H', ⟨by have := HK1.out; omega⟩, ⟨by (with_reducible repeat (first | apply Kd.S_alloc | apply Kd.S_drewN | apply Kd.S_drew)); exact Kd.S_mono HO377.out (fun _ hk => hk.2)⟩, ⟨by (with_reducible repeat (first | apply Kd.S_alloc | apply Kd.S_drewN | apply Kd.S_drew)); exact HO380.out⟩, ⟨by repeat (first | (with_reducible first | exact HB.out | apply below_alloc | apply pw_below_drewN | apply below_drew1) | exact HB.out)⟩⟩
          ·rw [if_neg c15] at H
           exact absurd H (by simp)
         ·rw [if_neg c14] at H
          exact absurd H (by simp)
        ·replace c13 := Bool.eq_false_iff.mpr c13
         subst c13
         have H1 : (some false) = some r := by rw [if_neg (show ¬ (false = true) by decide)] at H; exact H
         clear H
         have H := H1
         clear H1
         obtain rfl := Option.some.inj H
         go_wp2_with (first | (go_at_call 22; (with_reducible refine (postbaglaw4_turn.calls x5_1 (l0.length : Int) t363 _ A5.out).mono ?_); rintro e w' ⟨rfl, ⟨nd, rfl⟩⟩; (try first | exact ⟨rfl, _, World.drewN_drewN _ _ _⟩ | exact ⟨rfl, _, Eq.trans (World.drewN_drewN _ _ _) (congrArg (World.drewN _) (Nat.add_assoc _ _ _))⟩); have p364 : 0 ≤ (t363 : Int) := of_decide_eq_true (by first | (with_reducible assumption) | assumption); have q364 : t363 < (l0.length : Int) := of_decide_eq_true (by first | (with_reducible assumption) | assumption); obtain ⟨ad364, A364_1, c364_1, A364_4, c364_4, A364_5, c364_5, e364, hx364_0, hx364_1, hx364_2, hx364_3, hx364_4, hx364_5, hl364_1, hi364_1, hl364_4, hi364_4, hl364_5, hi364_5⟩ := at_T38 HR0.out t363 p364 q364; cases e364; replace hx364_0 := (HB.out.cell (World.block_lt_of_cell? w _ hx364_0)).trans hx364_0; replace hx364_1 := (HB.out.cell (World.block_lt_of_cell? w _ hx364_1)).trans hx364_1; replace hx364_2 := (HB.out.cell (World.block_lt_of_cell? w _ hx364_2)).trans hx364_2; replace hx364_3 := (HB.out.cell (World.block_lt_of_cell? w _ hx364_3)).trans hx364_3; replace hx364_4 := (HB.out.cell (World.block_lt_of_cell? w _ hx364_4)).trans hx364_4; replace hx364_5 := (HB.out.cell (World.block_lt_of_cell? w _ hx364_5)).trans hx364_5; have HR364_1 := Aside0.mk hi364_1; have HC364_1 := Aside0.mk hl364_1; clear hi364_1 hl364_1; have HR364_4 := Aside0.mk hi364_4; have HC364_4 := Aside0.mk hl364_4; clear hi364_4 hl364_4; have HR364_5 := Aside0.mk hi364_5; have HC364_5 := Aside0.mk hl364_5; clear hi364_5 hl364_5; replace p364 := eq_true p364; replace q364 := eq_true q364) | (go_at_call 24; (with_reducible refine (postbagref4_Parse.calls k1 ((rd_T38 l0 t363).f0) t365 t366 _ A8.out).mono ?_); rintro e w22 ⟨v367, rfl, ho0, hb⟩; have n0_ := Aside0.mk (Kd.S_elder' (by (with_reducible repeat (first | apply Kd.S_alloc | apply Kd.S_drewN | apply Kd.S_drew)); exact HO_3.out) (Kd.R_base ho0) hb); have n1_ := Aside0.mk (Kd.S_elder' (by (with_reducible repeat (first | apply Kd.S_alloc | apply Kd.S_drewN | apply Kd.S_drew)); exact HO_4.out) (Kd.R_base ho0) hb); have n2_ := Aside0.mk (Kd.R_lower ho0 (below_size (by repeat (first | (with_reducible first | exact HB.out | apply below_alloc | apply pw_below_drewN | apply below_drew1) | exact HB.out)))); have n3_ := Aside0.mk (below_step (by repeat (first | (with_reducible first | exact HB.out | apply below_alloc | apply pw_below_drewN | apply below_drew1) | exact HB.out)) hb); clear HO_3; clear HO_4; clear HB; have HO_3 := n0_; have HO_4 := n1_; have HO368 := n2_; have HB := n3_; clear n0_ n1_ n2_ n3_; (try clear hb); (try clear hb2); (try clear hk); (try clear hi); (try clear ho0)) | (go_at_call 23; (with_reducible refine (span_Parse.calls ((rd_T38 l0 t363).f0) t369 t370 _ A9.out).mono ?_); rintro e w23 ⟨v371, rfl, ho0, hb⟩; have n0_ := Aside0.mk (Kd.S_elder' (by (with_reducible repeat (first | apply Kd.S_alloc | apply Kd.S_drewN | apply Kd.S_drew)); exact HO_3.out) (Kd.R_base ho0) hb); have n1_ := Aside0.mk (Kd.S_elder' (by (with_reducible repeat (first | apply Kd.S_alloc | apply Kd.S_drewN | apply Kd.S_drew)); exact HO_4.out) (Kd.R_base ho0) hb); have n2_ := Aside0.mk (Kd.R_elder' (by (with_reducible repeat (first | apply Kd.R_alloc | apply Kd.R_drewN | apply Kd.R_drew)); exact HO368.out) (Kd.R_base ho0) hb); have n3_ := Aside0.mk (Kd.R_lower (Kd.R_new' ho0 (Kd.R_lt (by (with_reducible repeat (first | apply Kd.R_alloc | apply Kd.R_drewN | apply Kd.R_drew)); exact HO368.out))) (below_size (by repeat (first | (with_reducible first | exact HB.out | apply below_alloc | apply pw_below_drewN | apply below_drew1) | exact HB.out)))); have n4_ := Aside0.mk (below_step (by repeat (first | (with_reducible first | exact HB.out | apply below_alloc | apply pw_below_drewN | apply below_drew1) | exact HB.out)) hb); clear HO_3; clear HO_4; clear HO368; clear HB; have HO_3 := n0_; have HO_4 := n1_; have HO368 := n2_; have HO372 := n3_; have HB := n4_; clear n0_ n1_ n2_ n3_ n4_; (try clear hb); (try clear hb2); (try clear hk); (try clear hi); (try clear ho0)) | (go_at_call 34; (with_reducible refine (postbaglaw4_num.calls t370 t373 _ A10.out).mono ?_); rintro e w' ⟨rfl, ⟨nd, rfl⟩⟩; (try first | exact ⟨rfl, _, World.drewN_drewN _ _ _⟩ | exact ⟨rfl, _, Eq.trans (World.drewN_drewN _ _ _) (congrArg (World.drewN _) (Nat.add_assoc _ _ _))⟩); obtain ⟨Ao24, co24, eo24⟩ := Kd.R_slice HO372.out; subst eo24; obtain ⟨Ao25, co25, eo25⟩ := Kd.R_slice HO368.out; subst eo25) | (go_at_call 26; (with_reducible refine (postbaglaw4_same.calls k1 _ _ t369 _ _ t365 false _ ?side1 ?side2 ?side3 ?side4 A12.out).mono ?_); (case side1 => repeat (first | exact (Kd.R_reads' HO372.out).2.2 | (with_reducible refine Kd.C_alloc ?_ _) | (with_reducible refine Kd.C_drewN ?_ _) | (with_reducible refine Kd.C_drew ?_))); (case side2 => exact (Kd.R_reads' HO372.out).2.1); (case side3 => repeat (first | exact (Kd.R_reads' HO368.out).2.2 | (with_reducible refine Kd.C_alloc ?_ _) | (with_reducible refine Kd.C_drewN ?_ _) | (with_reducible refine Kd.C_drew ?_))); (case side4 => exact (Kd.R_reads' HO368.out).2.1); rintro e w' ⟨rfl, ⟨nd, rfl⟩⟩; (try first | exact ⟨rfl, _, World.drewN_drewN _ _ _⟩ | exact ⟨rfl, _, Eq.trans (World.drewN_drewN _ _ _) (congrArg (World.drewN _) (Nat.add_assoc _ _ _))⟩)))
         repeat (go_quiet (first | (go_at_call 22; (with_reducible refine (postbaglaw4_turn.calls x5_1 (l0.length : Int) t363 _ A5.out).mono ?_); rintro e w' ⟨rfl, ⟨nd, rfl⟩⟩; (try first | exact ⟨rfl, _, World.drewN_drewN _ _ _⟩ | exact ⟨rfl, _, Eq.trans (World.drewN_drewN _ _ _) (congrArg (World.drewN _) (Nat.add_assoc _ _ _))⟩); have p364 : 0 ≤ (t363 : Int) := of_decide_eq_true (by first | (with_reducible assumption) | assumption); have q364 : t363 < (l0.length : Int) := of_decide_eq_true (by first | (with_reducible assumption) | assumption); obtain ⟨ad364, A364_1, c364_1, A364_4, c364_4, A364_5, c364_5, e364, hx364_0, hx364_1, hx364_2, hx364_3, hx364_4, hx364_5, hl364_1, hi364_1, hl364_4, hi364_4, hl364_5, hi364_5⟩ := at_T38 HR0.out t363 p364 q364; cases e364; replace hx364_0 := (HB.out.cell (World.block_lt_of_cell? w _ hx364_0)).trans hx364_0; replace hx364_1 := (HB.out.cell (World.block_lt_of_cell? w _ hx364_1)).trans hx364_1; replace hx364_2 := (HB.out.cell (World.block_lt_of_cell? w _ hx364_2)).trans hx364_2; replace hx364_3 := (HB.out.cell (World.block_lt_of_cell? w _ hx364_3)).trans hx364_3; replace hx364_4 := (HB.out.cell (World.block_lt_of_cell? w _ hx364_4)).trans hx364_4; replace hx364_5 := (HB.out.cell (World.block_lt_of_cell? w _ hx364_5)).trans hx364_5; have HR364_1 := Aside0.mk hi364_1; have HC364_1 := Aside0.mk hl364_1; clear hi364_1 hl364_1; have HR364_4 := Aside0.mk hi364_4; have HC364_4 := Aside0.mk hl364_4; clear hi364_4 hl364_4; have HR364_5 := Aside0.mk hi364_5; have HC364_5 := Aside0.mk hl364_5; clear hi364_5 hl364_5; replace p364 := eq_true p364; replace q364 := eq_true q364) | (go_at_call 24; (with_reducible refine (postbagref4_Parse.calls k1 ((rd_T38 l0 t363).f0) t365 t366 _ A8.out).mono ?_); rintro e w22 ⟨v367, rfl, ho0, hb⟩; have n0_ := Aside0.mk (Kd.S_elder' (by (with_reducible repeat (first | apply Kd.S_alloc | apply Kd.S_drewN | apply Kd.S_drew)); exact HO_3.out) (Kd.R_base ho0) hb); have n1_ := Aside0.mk (Kd.S_elder' (by (with_reducible repeat (first | apply Kd.S_alloc | apply Kd.S_drewN | apply Kd.S_drew)); exact HO_4.out) (Kd.R_base ho0) hb); have n2_ := Aside0.mk (Kd.R_lower ho0 (below_size (by repeat (first | (with_reducible first | exact HB.out | apply below_alloc | apply pw_below_drewN | apply below_drew1) | exact HB.out)))); have n3_ := Aside0.mk (below_step (by repeat (first | (with_reducible first | exact HB.out | apply below_alloc | apply pw_below_drewN | apply below_drew1) | exact HB.out)) hb); clear HO_3; clear HO_4; clear HB; have HO_3 := n0_; have HO_4 := n1_; have HO368 := n2_; have HB := n3_; clear n0_ n1_ n2_ n3_; (try clear hb); (try clear hb2); (try clear hk); (try clear hi); (try clear ho0)) | (go_at_call 23; (with_reducible refine (span_Parse.calls ((rd_T38 l0 t363).f0) t369 t370 _ A9.out).mono ?_); rintro e w23 ⟨v371, rfl, ho0, hb⟩; have n0_ := Aside0.mk (Kd.S_elder' (by (with_reducible repeat (first | apply Kd.S_alloc | apply Kd.S_drewN | apply Kd.S_drew)); exact HO_3.out) (Kd.R_base ho0) hb); have n1_ := Aside0.mk (Kd.S_elder' (by (with_reducible repeat (first | apply Kd.S_alloc | apply Kd.S_drewN | apply Kd.S_drew)); exact HO_4.out) (Kd.R_base ho0) hb); have n2_ := Aside0.mk (Kd.R_elder' (by (with_reducible repeat (first | apply Kd.R_alloc | apply Kd.R_drewN | apply Kd.R_drew)); exact HO368.out) (Kd.R_base ho0) hb); have n3_ := Aside0.mk (Kd.R_lower (Kd.R_new' ho0 (Kd.R_lt (by (with_reducible repeat (first | apply Kd.R_alloc | apply Kd.R_drewN | apply Kd.R_drew)); exact HO368.out))) (below_size (by repeat (first | (with_reducible first | exact HB.out | apply below_alloc | apply pw_below_drewN | apply below_drew1) | exact HB.out)))); have n4_ := Aside0.mk (below_step (by repeat (first | (with_reducible first | exact HB.out | apply below_alloc | apply pw_below_drewN | apply below_drew1) | exact HB.out)) hb); clear HO_3; clear HO_4; clear HO368; clear HB; have HO_3 := n0_; have HO_4 := n1_; have HO368 := n2_; have HO372 := n3_; have HB := n4_; clear n0_ n1_ n2_ n3_ n4_; (try clear hb); (try clear hb2); (try clear hk); (try clear hi); (try clear ho0)) | (go_at_call 34; (with_reducible refine (postbaglaw4_num.calls t370 t373 _ A10.out).mono ?_); rintro e w' ⟨rfl, ⟨nd, rfl⟩⟩; (try first | exact ⟨rfl, _, World.drewN_drewN _ _ _⟩ | exact ⟨rfl, _, Eq.trans (World.drewN_drewN _ _ _) (congrArg (World.drewN _) (Nat.add_assoc _ _ _))⟩); obtain ⟨Ao24, co24, eo24⟩ := Kd.R_slice HO372.out; subst eo24; obtain ⟨Ao25, co25, eo25⟩ := Kd.R_slice HO368.out; subst eo25) | (go_at_call 26; (with_reducible refine (postbaglaw4_same.calls k1 _ _ t369 _ _ t365 false _ ?side1 ?side2 ?side3 ?side4 A12.out).mono ?_); (case side1 => repeat (first | exact (Kd.R_reads' HO372.out).2.2 | (with_reducible refine Kd.C_alloc ?_ _) | (with_reducible refine Kd.C_drewN ?_ _) | (with_reducible refine Kd.C_drew ?_))); (case side2 => exact (Kd.R_reads' HO372.out).2.1); (case side3 => repeat (first | exact (Kd.R_reads' HO368.out).2.2 | (with_reducible refine Kd.C_alloc ?_ _) | (with_reducible refine Kd.C_drewN ?_ _) | (with_reducible refine Kd.C_drew ?_))); (case side4 => exact (Kd.R_reads' HO368.out).2.1); rintro e w' ⟨rfl, ⟨nd, rfl⟩⟩; (try first | exact ⟨rfl, _, World.drewN_drewN _ _ _⟩ | exact ⟨rfl, _, Eq.trans (World.drewN_drewN _ _ _) (congrArg (World.drewN _) (Nat.add_assoc _ _ _))⟩))); try go_wp2_with (first | (go_at_call 22; (with_reducible refine (postbaglaw4_turn.calls x5_1 (l0.length : Int) t363 _ A5.out).mono ?_); rintro e w' ⟨rfl, ⟨nd, rfl⟩⟩; (try first | exact ⟨rfl, _, World.drewN_drewN _ _ _⟩ | exact ⟨rfl, _, Eq.trans (World.drewN_drewN _ _ _) (congrArg (World.drewN _) (Nat.add_assoc _ _ _))⟩); have p364 : 0 ≤ (t363 : Int) := of_decide_eq_true (by first | (with_reducible assumption) | assumption); have q364 : t363 < (l0.length : Int) := of_decide_eq_true (by first | (with_reducible assumption) | assumption); obtain ⟨ad364, A364_1, c364_1, A364_4, c364_4, A364_5, c364_5, e364, hx364_0, hx364_1, hx364_2, hx364_3, hx364_4, hx364_5, hl364_1, hi364_1, hl364_4, hi364_4, hl364_5, hi364_5⟩ := at_T38 HR0.out t363 p364 q364; cases e364; replace hx364_0 := (HB.out.cell (World.block_lt_of_cell? w _ hx364_0)).trans hx364_0; replace hx364_1 := (HB.out.cell (World.block_lt_of_cell? w _ hx364_1)).trans hx364_1; replace hx364_2 := (HB.out.cell (World.block_lt_of_cell? w _ hx364_2)).trans hx364_2; replace hx364_3 := (HB.out.cell (World.block_lt_of_cell? w _ hx364_3)).trans hx364_3; replace hx364_4 := (HB.out.cell (World.block_lt_of_cell? w _ hx364_4)).trans hx364_4; replace hx364_5 := (HB.out.cell (World.block_lt_of_cell? w _ hx364_5)).trans hx364_5; have HR364_1 := Aside0.mk hi364_1; have HC364_1 := Aside0.mk hl364_1; clear hi364_1 hl364_1; have HR364_4 := Aside0.mk hi364_4; have HC364_4 := Aside0.mk hl364_4; clear hi364_4 hl364_4; have HR364_5 := Aside0.mk hi364_5; have HC364_5 := Aside0.mk hl364_5; clear hi364_5 hl364_5; replace p364 := eq_true p364; replace q364 := eq_true q364) | (go_at_call 24; (with_reducible refine (postbagref4_Parse.calls k1 ((rd_T38 l0 t363).f0) t365 t366 _ A8.out).mono ?_); rintro e w22 ⟨v367, rfl, ho0, hb⟩; have n0_ := Aside0.mk (Kd.S_elder' (by (with_reducible repeat (first | apply Kd.S_alloc | apply Kd.S_drewN | apply Kd.S_drew)); exact HO_3.out) (Kd.R_base ho0) hb); have n1_ := Aside0.mk (Kd.S_elder' (by (with_reducible repeat (first | apply Kd.S_alloc | apply Kd.S_drewN | apply Kd.S_drew)); exact HO_4.out) (Kd.R_base ho0) hb); have n2_ := Aside0.mk (Kd.R_lower ho0 (below_size (by repeat (first | (with_reducible first | exact HB.out | apply below_alloc | apply pw_below_drewN | apply below_drew1) | exact HB.out)))); have n3_ := Aside0.mk (below_step (by repeat (first | (with_reducible first | exact HB.out | apply below_alloc | apply pw_below_drewN | apply below_drew1) | exact HB.out)) hb); clear HO_3; clear HO_4; clear HB; have HO_3 := n0_; have HO_4 := n1_; have HO368 := n2_; have HB := n3_; clear n0_ n1_ n2_ n3_; (try clear hb); (try clear hb2); (try clear hk); (try clear hi); (try clear ho0)) | (go_at_call 23; (with_reducible refine (span_Parse.calls ((rd_T38 l0 t363).f0) t369 t370 _ A9.out).mono ?_); rintro e w23 ⟨v371, rfl, ho0, hb⟩; have n0_ := Aside0.mk (Kd.S_elder' (by (with_reducible repeat (first | apply Kd.S_alloc | apply Kd.S_drewN | apply Kd.S_drew)); exact HO_3.out) (Kd.R_base ho0) hb); have n1_ := Aside0.mk (Kd.S_elder' (by (with_reducible repeat (first | apply Kd.S_alloc | apply Kd.S_drewN | apply Kd.S_drew)); exact HO_4.out) (Kd.R_base ho0) hb); have n2_ := Aside0.mk (Kd.R_elder' (by (with_reducible repeat (first | apply Kd.R_alloc | apply Kd.R_drewN | apply Kd.R_drew)); exact HO368.out) (Kd.R_base ho0) hb); have n3_ := Aside0.mk (Kd.R_lower (Kd.R_new' ho0 (Kd.R_lt (by (with_reducible repeat (first | apply Kd.R_alloc | apply Kd.R_drewN | apply Kd.R_drew)); exact HO368.out))) (below_size (by repeat (first | (with_reducible first | exact HB.out | apply below_alloc | apply pw_below_drewN | apply below_drew1) | exact HB.out)))); have n4_ := Aside0.mk (below_step (by repeat (first | (with_reducible first | exact HB.out | apply below_alloc | apply pw_below_drewN | apply below_drew1) | exact HB.out)) hb); clear HO_3; clear HO_4; clear HO368; clear HB; have HO_3 := n0_; have HO_4 := n1_; have HO368 := n2_; have HO372 := n3_; have HB := n4_; clear n0_ n1_ n2_ n3_ n4_; (try clear hb); (try clear hb2); (try clear hk); (try clear hi); (try clear ho0)) | (go_at_call 34; (with_reducible refine (postbaglaw4_num.calls t370 t373 _ A10.out).mono ?_); rintro e w' ⟨rfl, ⟨nd, rfl⟩⟩; (try first | exact ⟨rfl, _, World.drewN_drewN _ _ _⟩ | exact ⟨rfl, _, Eq.trans (World.drewN_drewN _ _ _) (congrArg (World.drewN _) (Nat.add_assoc _ _ _))⟩); obtain ⟨Ao24, co24, eo24⟩ := Kd.R_slice HO372.out; subst eo24; obtain ⟨Ao25, co25, eo25⟩ := Kd.R_slice HO368.out; subst eo25) | (go_at_call 26; (with_reducible refine (postbaglaw4_same.calls k1 _ _ t369 _ _ t365 false _ ?side1 ?side2 ?side3 ?side4 A12.out).mono ?_); (case side1 => repeat (first | exact (Kd.R_reads' HO372.out).2.2 | (with_reducible refine Kd.C_alloc ?_ _) | (with_reducible refine Kd.C_drewN ?_ _) | (with_reducible refine Kd.C_drew ?_))); (case side2 => exact (Kd.R_reads' HO372.out).2.1); (case side3 => repeat (first | exact (Kd.R_reads' HO368.out).2.2 | (with_reducible refine Kd.C_alloc ?_ _) | (with_reducible refine Kd.C_drewN ?_ _) | (with_reducible refine Kd.C_drew ?_))); (case side4 => exact (Kd.R_reads' HO368.out).2.1); rintro e w' ⟨rfl, ⟨nd, rfl⟩⟩; (try first | exact ⟨rfl, _, World.drewN_drewN _ _ _⟩ | exact ⟨rfl, _, Eq.trans (World.drewN_drewN _ _ _) (congrArg (World.drewN _) (Nat.add_assoc _ _ _))⟩))))
         go_ret
         exact ⟨by first | rfl | (simp [errW_none, errW_some] <;> rfl) | (simp [*, errW_none, errW_some] <;> rfl), by repeat (first | (with_reducible first | exact HB.out | apply below_alloc | apply pw_below_drewN | apply below_drew1) | exact HB.out)⟩
       ·rw [if_neg c11] at H
        have c11b0 : (t373 == t366) = false := beq_eq_false_iff_ne.mpr c11
        have c11b1 : (t373 != t366) = true := bne_iff_ne.mpr c11
        obtain rfl := Option.some.inj H
        go_wp2_with (first | (go_at_call 22; (with_reducible refine (postbaglaw4_turn.calls x5_1 (l0.length : Int) t363 _ A5.out).mono ?_); rintro e w' ⟨rfl, ⟨nd, rfl⟩⟩; (try first | exact ⟨rfl, _, World.drewN_drewN _ _ _⟩ | exact ⟨rfl, _, Eq.trans (World.drewN_drewN _ _ _) (congrArg (World.drewN _) (Nat.add_assoc _ _ _))⟩); have p364 : 0 ≤ (t363 : Int) := of_decide_eq_true (by first | (with_reducible assumption) | assumption); have q364 : t363 < (l0.length : Int) := of_decide_eq_true (by first | (with_reducible assumption) | assumption); obtain ⟨ad364, A364_1, c364_1, A364_4, c364_4, A364_5, c364_5, e364, hx364_0, hx364_1, hx364_2, hx364_3, hx364_4, hx364_5, hl364_1, hi364_1, hl364_4, hi364_4, hl364_5, hi364_5⟩ := at_T38 HR0.out t363 p364 q364; cases e364; replace hx364_0 := (HB.out.cell (World.block_lt_of_cell? w _ hx364_0)).trans hx364_0; replace hx364_1 := (HB.out.cell (World.block_lt_of_cell? w _ hx364_1)).trans hx364_1; replace hx364_2 := (HB.out.cell (World.block_lt_of_cell? w _ hx364_2)).trans hx364_2; replace hx364_3 := (HB.out.cell (World.block_lt_of_cell? w _ hx364_3)).trans hx364_3; replace hx364_4 := (HB.out.cell (World.block_lt_of_cell? w _ hx364_4)).trans hx364_4; replace hx364_5 := (HB.out.cell (World.block_lt_of_cell? w _ hx364_5)).trans hx364_5; have HR364_1 := Aside0.mk hi364_1; have HC364_1 := Aside0.mk hl364_1; clear hi364_1 hl364_1; have HR364_4 := Aside0.mk hi364_4; have HC364_4 := Aside0.mk hl364_4; clear hi364_4 hl364_4; have HR364_5 := Aside0.mk hi364_5; have HC364_5 := Aside0.mk hl364_5; clear hi364_5 hl364_5; replace p364 := eq_true p364; replace q364 := eq_true q364) | (go_at_call 24; (with_reducible refine (postbagref4_Parse.calls k1 ((rd_T38 l0 t363).f0) t365 t366 _ A8.out).mono ?_); rintro e w26 ⟨v367, rfl, ho0, hb⟩; have n0_ := Aside0.mk (Kd.S_elder' (by (with_reducible repeat (first | apply Kd.S_alloc | apply Kd.S_drewN | apply Kd.S_drew)); exact HO_3.out) (Kd.R_base ho0) hb); have n1_ := Aside0.mk (Kd.S_elder' (by (with_reducible repeat (first | apply Kd.S_alloc | apply Kd.S_drewN | apply Kd.S_drew)); exact HO_4.out) (Kd.R_base ho0) hb); have n2_ := Aside0.mk (Kd.R_lower ho0 (below_size (by repeat (first | (with_reducible first | exact HB.out | apply below_alloc | apply pw_below_drewN | apply below_drew1) | exact HB.out)))); have n3_ := Aside0.mk (below_step (by repeat (first | (with_reducible first | exact HB.out | apply below_alloc | apply pw_below_drewN | apply below_drew1) | exact HB.out)) hb); clear HO_3; clear HO_4; clear HB; have HO_3 := n0_; have HO_4 := n1_; have HO368 := n2_; have HB := n3_; clear n0_ n1_ n2_ n3_; (try clear hb); (try clear hb2); (try clear hk); (try clear hi); (try clear ho0)) | (go_at_call 23; (with_reducible refine (span_Parse.calls ((rd_T38 l0 t363).f0) t369 t370 _ A9.out).mono ?_); rintro e w27 ⟨v371, rfl, ho0, hb⟩; have n0_ := Aside0.mk (Kd.S_elder' (by (with_reducible repeat (first | apply Kd.S_alloc | apply Kd.S_drewN | apply Kd.S_drew)); exact HO_3.out) (Kd.R_base ho0) hb); have n1_ := Aside0.mk (Kd.S_elder' (by (with_reducible repeat (first | apply Kd.S_alloc | apply Kd.S_drewN | apply Kd.S_drew)); exact HO_4.out) (Kd.R_base ho0) hb); have n2_ := Aside0.mk (Kd.R_elder' (by (with_reducible repeat (first | apply Kd.R_alloc | apply Kd.R_drewN | apply Kd.R_drew)); exact HO368.out) (Kd.R_base ho0) hb); have n3_ := Aside0.mk (Kd.R_lower (Kd.R_new' ho0 (Kd.R_lt (by (with_reducible repeat (first | apply Kd.R_alloc | apply Kd.R_drewN | apply Kd.R_drew)); exact HO368.out))) (below_size (by repeat (first | (with_reducible first | exact HB.out | apply below_alloc | apply pw_below_drewN | apply below_drew1) | exact HB.out)))); have n4_ := Aside0.mk (below_step (by repeat (first | (with_reducible first | exact HB.out | apply below_alloc | apply pw_below_drewN | apply below_drew1) | exact HB.out)) hb); clear HO_3; clear HO_4; clear HO368; clear HB; have HO_3 := n0_; have HO_4 := n1_; have HO368 := n2_; have HO372 := n3_; have HB := n4_; clear n0_ n1_ n2_ n3_ n4_; (try clear hb); (try clear hb2); (try clear hk); (try clear hi); (try clear ho0)) | (go_at_call 34; (with_reducible refine (postbaglaw4_num.calls t370 t373 _ A10.out).mono ?_); rintro e w' ⟨rfl, ⟨nd, rfl⟩⟩; (try first | exact ⟨rfl, _, World.drewN_drewN _ _ _⟩ | exact ⟨rfl, _, Eq.trans (World.drewN_drewN _ _ _) (congrArg (World.drewN _) (Nat.add_assoc _ _ _))⟩)))
        repeat (go_quiet (first | (go_at_call 22; (with_reducible refine (postbaglaw4_turn.calls x5_1 (l0.length : Int) t363 _ A5.out).mono ?_); rintro e w' ⟨rfl, ⟨nd, rfl⟩⟩; (try first | exact ⟨rfl, _, World.drewN_drewN _ _ _⟩ | exact ⟨rfl, _, Eq.trans (World.drewN_drewN _ _ _) (congrArg (World.drewN _) (Nat.add_assoc _ _ _))⟩); have p364 : 0 ≤ (t363 : Int) := of_decide_eq_true (by first | (with_reducible assumption) | assumption); have q364 : t363 < (l0.length : Int) := of_decide_eq_true (by first | (with_reducible assumption) | assumption); obtain ⟨ad364, A364_1, c364_1, A364_4, c364_4, A364_5, c364_5, e364, hx364_0, hx364_1, hx364_2, hx364_3, hx364_4, hx364_5, hl364_1, hi364_1, hl364_4, hi364_4, hl364_5, hi364_5⟩ := at_T38 HR0.out t363 p364 q364; cases e364; replace hx364_0 := (HB.out.cell (World.block_lt_of_cell? w _ hx364_0)).trans hx364_0; replace hx364_1 := (HB.out.cell (World.block_lt_of_cell? w _ hx364_1)).trans hx364_1; replace hx364_2 := (HB.out.cell (World.block_lt_of_cell? w _ hx364_2)).trans hx364_2; replace hx364_3 := (HB.out.cell (World.block_lt_of_cell? w _ hx364_3)).trans hx364_3; replace hx364_4 := (HB.out.cell (World.block_lt_of_cell? w _ hx364_4)).trans hx364_4; replace hx364_5 := (HB.out.cell (World.block_lt_of_cell? w _ hx364_5)).trans hx364_5; have HR364_1 := Aside0.mk hi364_1; have HC364_1 := Aside0.mk hl364_1; clear hi364_1 hl364_1; have HR364_4 := Aside0.mk hi364_4; have HC364_4 := Aside0.mk hl364_4; clear hi364_4 hl364_4; have HR364_5 := Aside0.mk hi364_5; have HC364_5 := Aside0.mk hl364_5; clear hi364_5 hl364_5; replace p364 := eq_true p364; replace q364 := eq_true q364) | (go_at_call 24; (with_reducible refine (postbagref4_Parse.calls k1 ((rd_T38 l0 t363).f0) t365 t366 _ A8.out).mono ?_); rintro e w26 ⟨v367, rfl, ho0, hb⟩; have n0_ := Aside0.mk (Kd.S_elder' (by (with_reducible repeat (first | apply Kd.S_alloc | apply Kd.S_drewN | apply Kd.S_drew)); exact HO_3.out) (Kd.R_base ho0) hb); have n1_ := Aside0.mk (Kd.S_elder' (by (with_reducible repeat (first | apply Kd.S_alloc | apply Kd.S_drewN | apply Kd.S_drew)); exact HO_4.out) (Kd.R_base ho0) hb); have n2_ := Aside0.mk (Kd.R_lower ho0 (below_size (by repeat (first | (with_reducible first | exact HB.out | apply below_alloc | apply pw_below_drewN | apply below_drew1) | exact HB.out)))); have n3_ := Aside0.mk (below_step (by repeat (first | (with_reducible first | exact HB.out | apply below_alloc | apply pw_below_drewN | apply below_drew1) | exact HB.out)) hb); clear HO_3; clear HO_4; clear HB; have HO_3 := n0_; have HO_4 := n1_; have HO368 := n2_; have HB := n3_; clear n0_ n1_ n2_ n3_; (try clear hb); (try clear hb2); (try clear hk); (try clear hi); (try clear ho0)) | (go_at_call 23; (with_reducible refine (span_Parse.calls ((rd_T38 l0 t363).f0) t369 t370 _ A9.out).mono ?_); rintro e w27 ⟨v371, rfl, ho0, hb⟩; have n0_ := Aside0.mk (Kd.S_elder' (by (with_reducible repeat (first | apply Kd.S_alloc | apply Kd.S_drewN | apply Kd.S_drew)); exact HO_3.out) (Kd.R_base ho0) hb); have n1_ := Aside0.mk (Kd.S_elder' (by (with_reducible repeat (first | apply Kd.S_alloc | apply Kd.S_drewN | apply Kd.S_drew)); exact HO_4.out) (Kd.R_base ho0) hb); have n2_ := Aside0.mk (Kd.R_elder' (by (with_reducible repeat (first | apply Kd.R_alloc | apply Kd.R_drewN | apply Kd.R_drew)); exact HO368.out) (Kd.R_base ho0) hb); have n3_ := Aside0.mk (Kd.R_lower (Kd.R_new' ho0 (Kd.R_lt (by (with_reducible repeat (first | apply Kd.R_alloc | apply Kd.R_drewN | apply Kd.R_drew)); exact HO368.out))) (below_size (by repeat (first | (with_reducible first | exact HB.out | apply below_alloc | apply pw_below_drewN | apply below_drew1) | exact HB.out)))); have n4_ := Aside0.mk (below_step (by repeat (first | (with_reducible first | exact HB.out | apply below_alloc | apply pw_below_drewN | apply below_drew1) | exact HB.out)) hb); clear HO_3; clear HO_4; clear HO368; clear HB; have HO_3 := n0_; have HO_4 := n1_; have HO368 := n2_; have HO372 := n3_; have HB := n4_; clear n0_ n1_ n2_ n3_ n4_; (try clear hb); (try clear hb2); (try clear hk); (try clear hi); (try clear ho0)) | (go_at_call 34; (with_reducible refine (postbaglaw4_num.calls t370 t373 _ A10.out).mono ?_); rintro e w' ⟨rfl, ⟨nd, rfl⟩⟩; (try first | exact ⟨rfl, _, World.drewN_drewN _ _ _⟩ | exact ⟨rfl, _, Eq.trans (World.drewN_drewN _ _ _) (congrArg (World.drewN _) (Nat.add_assoc _ _ _))⟩))); try go_wp2_with (first | (go_at_call 22; (with_reducible refine (postbaglaw4_turn.calls x5_1 (l0.length : Int) t363 _ A5.out).mono ?_); rintro e w' ⟨rfl, ⟨nd, rfl⟩⟩; (try first | exact ⟨rfl, _, World.drewN_drewN _ _ _⟩ | exact ⟨rfl, _, Eq.trans (World.drewN_drewN _ _ _) (congrArg (World.drewN _) (Nat.add_assoc _ _ _))⟩); have p364 : 0 ≤ (t363 : Int) := of_decide_eq_true (by first | (with_reducible assumption) | assumption); have q364 : t363 < (l0.length : Int) := of_decide_eq_true (by first | (with_reducible assumption) | assumption); obtain ⟨ad364, A364_1, c364_1, A364_4, c364_4, A364_5, c364_5, e364, hx364_0, hx364_1, hx364_2, hx364_3, hx364_4, hx364_5, hl364_1, hi364_1, hl364_4, hi364_4, hl364_5, hi364_5⟩ := at_T38 HR0.out t363 p364 q364; cases e364; replace hx364_0 := (HB.out.cell (World.block_lt_of_cell? w _ hx364_0)).trans hx364_0; replace hx364_1 := (HB.out.cell (World.block_lt_of_cell? w _ hx364_1)).trans hx364_1; replace hx364_2 := (HB.out.cell (World.block_lt_of_cell? w _ hx364_2)).trans hx364_2; replace hx364_3 := (HB.out.cell (World.block_lt_of_cell? w _ hx364_3)).trans hx364_3; replace hx364_4 := (HB.out.cell (World.block_lt_of_cell? w _ hx364_4)).trans hx364_4; replace hx364_5 := (HB.out.cell (World.block_lt_of_cell? w _ hx364_5)).trans hx364_5; have HR364_1 := Aside0.mk hi364_1; have HC364_1 := Aside0.mk hl364_1; clear hi364_1 hl364_1; have HR364_4 := Aside0.mk hi364_4; have HC364_4 := Aside0.mk hl364_4; clear hi364_4 hl364_4; have HR364_5 := Aside0.mk hi364_5; have HC364_5 := Aside0.mk hl364_5; clear hi364_5 hl364_5; replace p364 := eq_true p364; replace q364 := eq_true q364) | (go_at_call 24; (with_reducible refine (postbagref4_Parse.calls k1 ((rd_T38 l0 t363).f0) t365 t366 _ A8.out).mono ?_); rintro e w26 ⟨v367, rfl, ho0, hb⟩; have n0_ := Aside0.mk (Kd.S_elder' (by (with_reducible repeat (first | apply Kd.S_alloc | apply Kd.S_drewN | apply Kd.S_drew)); exact HO_3.out) (Kd.R_base ho0) hb); have n1_ := Aside0.mk (Kd.S_elder' (by (with_reducible repeat (first | apply Kd.S_alloc | apply Kd.S_drewN | apply Kd.S_drew)); exact HO_4.out) (Kd.R_base ho0) hb); have n2_ := Aside0.mk (Kd.R_lower ho0 (below_size (by repeat (first | (with_reducible first | exact HB.out | apply below_alloc | apply pw_below_drewN | apply below_drew1) | exact HB.out)))); have n3_ := Aside0.mk (below_step (by repeat (first | (with_reducible first | exact HB.out | apply below_alloc | apply pw_below_drewN | apply below_drew1) | exact HB.out)) hb); clear HO_3; clear HO_4; clear HB; have HO_3 := n0_; have HO_4 := n1_; have HO368 := n2_; have HB := n3_; clear n0_ n1_ n2_ n3_; (try clear hb); (try clear hb2); (try clear hk); (try clear hi); (try clear ho0)) | (go_at_call 23; (with_reducible refine (span_Parse.calls ((rd_T38 l0 t363).f0) t369 t370 _ A9.out).mono ?_); rintro e w27 ⟨v371, rfl, ho0, hb⟩; have n0_ := Aside0.mk (Kd.S_elder' (by (with_reducible repeat (first | apply Kd.S_alloc | apply Kd.S_drewN | apply Kd.S_drew)); exact HO_3.out) (Kd.R_base ho0) hb); have n1_ := Aside0.mk (Kd.S_elder' (by (with_reducible repeat (first | apply Kd.S_alloc | apply Kd.S_drewN | apply Kd.S_drew)); exact HO_4.out) (Kd.R_base ho0) hb); have n2_ := Aside0.mk (Kd.R_elder' (by (with_reducible repeat (first | apply Kd.R_alloc | apply Kd.R_drewN | apply Kd.R_drew)); exact HO368.out) (Kd.R_base ho0) hb); have n3_ := Aside0.mk (Kd.R_lower (Kd.R_new' ho0 (Kd.R_lt (by (with_reducible repeat (first | apply Kd.R_alloc | apply Kd.R_drewN | apply Kd.R_drew)); exact HO368.out))) (below_size (by repeat (first | (with_reducible first | exact HB.out | apply below_alloc | apply pw_below_drewN | apply below_drew1) | exact HB.out)))); have n4_ := Aside0.mk (below_step (by repeat (first | (with_reducible first | exact HB.out | apply below_alloc | apply pw_below_drewN | apply below_drew1) | exact HB.out)) hb); clear HO_3; clear HO_4; clear HO368; clear HB; have HO_3 := n0_; have HO_4 := n1_; have HO368 := n2_; have HO372 := n3_; have HB := n4_; clear n0_ n1_ n2_ n3_ n4_; (try clear hb); (try clear hb2); (try clear hk); (try clear hi); (try clear ho0)) | (go_at_call 34; (with_reducible refine (postbaglaw4_num.calls t370 t373 _ A10.out).mono ?_); rintro e w' ⟨rfl, ⟨nd, rfl⟩⟩; (try first | exact ⟨rfl, _, World.drewN_drewN _ _ _⟩ | exact ⟨rfl, _, Eq.trans (World.drewN_drewN _ _ _) (congrArg (World.drewN _) (Nat.add_assoc _ _ _))⟩))))
        go_ret
        exact ⟨by first | rfl | (simp [errW_none, errW_some] <;> rfl) | (simp [*, errW_none, errW_some] <;> rfl), by repeat (first | (with_reducible first | exact HB.out | apply below_alloc | apply pw_below_drewN | apply below_drew1) | exact HB.out)⟩
      ·rw [if_neg c7] at H
       exact absurd H (by simp)
     ·rw [if_neg c6] at H
      exact absurd H (by simp)
    ·rw [if_neg c4] at H
     have c4b0 : decide (x5_1 < (wrap64 (2 * (l0.length : Int)))) = false := decide_eq_false c4
     clear c4
     have H' := Aside0.mk H
     clear H
     go_wp2
     repeat (go_quiet (fail); try go_wp2)
     go_loopg [11] k1 (fun kq v11 w' => ∃ (x11_2 : Int), v11 = .int .i64 x11_2 ∧ Aside0 (postbaglaw4_SpanParses.l1 kq x3_1 x4_1 x11_2 = some r) ∧ Aside0 (kq ≤ k1) ∧ Aside0 (Kd.S (Kd.slice 28 k28) 23 w' w.heap.size (fun k_ => some k_ ≠ (u4 : Value).ownBlock) u3 x3_1) ∧ Aside0 (Kd.S (Kd.slice 28 k28) 23 w' w.heap.size (fun k_ => some k_ ≠ (u3 : Value).ownBlock) u4 x4_1) ∧ Aside0 (Below w.heap.size w w'))
     case atStart => exact ⟨(0), (by first | rfl | (simp; done) | (simp [*]; done)), H', ⟨Nat.le_refl _⟩, ⟨by (with_reducible repeat (first | apply Kd.S_alloc | apply Kd.S_drewN | apply Kd.S_drew)); exact HO_3.out⟩, ⟨by (with_reducible repeat (first | apply Kd.S_alloc | apply Kd.S_drewN | apply Kd.S_drew)); exact HO_4.out⟩, ⟨by repeat (first | (with_reducible first | exact HB.out | apply below_alloc | apply pw_below_drewN | apply below_drew1) | exact HB.out)⟩⟩
     case round =>
      clear H'
      try clear c1
      try clear p2
      try clear c3
      try clear p3
      try clear q3
      try clear hx3
      try clear c4
      try clear c4b0
      try clear c5
      try clear c6
      try clear c6b0
      try clear p6
      try clear c7
      try clear c7b0
      try clear c11
      try clear c11b0
      try clear c11b1
      try clear c13
      try clear c14
      try clear c15
      try clear hx364_0
      try clear hx364_1
      try clear hx364_2
      try clear hx364_3
      try clear hx364_4
      try clear hx364_5
      try clear p2
      try clear p364
      try clear q364
      obtain ⟨x11_2, rfl, HA, HK2, HO_3, HO_4, HB⟩ := hrel
      cases gk with
      | zero => exact absurd HA.out (by simp [postbaglaw4_SpanParses.l1])
      | succ k2 =>
       have H := HA.out
       clear HA
       simp only [postbaglaw4_SpanParses.l1] at H
       by_cases c28 : x11_2 < (x3_1.length : Int)
       ·rw [if_pos c28] at H
        have c28b0 : decide (x11_2 < (x3_1.length : Int)) = true := decide_eq_true c28
        clear c28
        by_cases c29 : 0 ≤ x11_2
        ·rw [if_pos c29] at H
         have c29b0 : decide (0 ≤ x11_2) = true := decide_eq_true c29
         clear c29
         by_cases c30 : x11_2 < (x4_1.length : Int)
         ·rw [if_pos c30] at H
          have c30b0 : decide (x11_2 < (x4_1.length : Int)) = true := decide_eq_true c30
          clear c30
          replace H := Option.bind_eq_some_iff.mp H
          obtain ⟨t383, A310, H⟩ := H
          replace H : (if t383 = true then (postbaglaw4_SpanParses.l1 k2 x3_1 x4_1 (wrap64 (x11_2 + 1))) else (some false)) = some r := H
          have A31 := Aside0.mk A310
          clear A310
          by_cases c32 : t383 = true
          ·subst c32
           have H1 : (postbaglaw4_SpanParses.l1 k2 x3_1 x4_1 (wrap64 (x11_2 + 1))) = some r := by rw [if_pos rfl] at H; exact H
           clear H
           have H := H1
           clear H1
           have H' := Aside0.mk H
           clear H
           obtain ⟨Ao33, co33, eo33⟩ := Kd.S_slice HO_3.out
           subst eo33
           have p381 : 0 ≤ (x11_2 : Int) := of_decide_eq_true (by first | (with_reducible assumption) | assumption)
           have q381 : x11_2 < (x3_1.length : Int) := of_decide_eq_true (by first | (with_reducible assumption) | assumption)
           obtain ⟨ad381, A381_0, c381_0, e381, hx381_0, hl381_0, hi381_0⟩ := at_L2 (Kd.S_reads' HO_3.out).2.2 x11_2 p381 q381
           cases e381
           obtain ⟨ce381, hce381, hMe381, hcc381⟩ := Kd.S_get HO_3.out [] x11_2 p381 (by first | exact q381 | exact of_decide_eq_true (by first | (with_reducible assumption) | assumption) | (have e_ := (Kd.S_reads' HO_3.out).1; omega))
           obtain ⟨ve381_0, rfl, ge381_0⟩ := hMe381
           have hv381_0 := hcc381 0 _ rfl
           rw [Nat.add_zero, show ((Kd.slice 28 k28)).sz = 1 from rfl, Nat.mul_one] at hv381_0
           replace hv381_0 := Option.some.inj (hv381_0.symm.trans hx381_0)
           rw [hv381_0] at ge381_0
           have HL381_0 := Aside0.mk (show Kd.R k28 28 _ _ _ _ (rd_L2 x3_1 x11_2) from ge381_0)
           clear hv381_0 ge381_0
           clear hcc381 hce381
           have HR381_0 := Aside0.mk hi381_0
           have HC381_0 := Aside0.mk hl381_0
           clear hi381_0 hl381_0
           replace p381 := eq_true p381
           replace q381 := eq_true q381
           obtain ⟨Ao34, co34, eo34⟩ := Kd.S_slice HO_4.out
           subst eo34
           have p382 : 0 ≤ (x11_2 : Int) := of_decide_eq_true (by first | (with_reducible assumption) | assumption)
           have q382 : x11_2 < (x4_1.length : Int) := of_decide_eq_true (by first | (with_reducible assumption) | assumption)
           obtain ⟨ad382, A382_0, c382_0, e382, hx382_0, hl382_0, hi382_0⟩ := at_L2 (Kd.S_reads' HO_4.out).2.2 x11_2 p382 q382
           cases e382
           obtain ⟨ce382, hce382, hMe382, hcc382⟩ := Kd.S_get HO_4.out [] x11_2 p382 (by first | exact q382 | exact of_decide_eq_true (by first | (with_reducible assumption) | assumption) | (have e_ := (Kd.S_reads' HO_4.out).1; omega))
           obtain ⟨ve382_0, rfl, ge382_0⟩ := hMe382
           have hv382_0 := hcc382 0 _ rfl
           rw [Nat.add_zero, show ((Kd.slice 28 k28)).sz = 1 from rfl, Nat.mul_one] at hv382_0
           replace hv382_0 := Option.some.inj (hv382_0.symm.trans hx382_0)
           rw [hv382_0] at ge382_0
           have HL382_0 := Aside0.mk (show Kd.R k28 28 _ _ _ _ (rd_L2 x4_1 x11_2) from ge382_0)
           clear hv382_0 ge382_0
           clear hcc382 hce382
           have HR382_0 := Aside0.mk hi382_0
           have HC382_0 := Aside0.mk hl382_0
           clear hi382_0 hl382_0
           replace p382 := eq_true p382
           replace q382 := eq_true q382
           go_wp2_with (first | (go_at_call 26; (with_reducible refine (postbaglaw4_same.calls k2 _ _ (rd_L2 x3_1 x11_2) _ _ (rd_L2 x4_1 x11_2) true _ ?side1 ?side2 ?side3 ?side4 A31.out).mono ?_); (case side1 => repeat (first | exact (by repeat (first | (with_reducible exact HR381_0.out) | (with_reducible refine Kd.C_alloc ?_ _) | (with_reducible refine Kd.C_drewN ?_ _) | (with_reducible refine Kd.C_drew ?_) | exact HR381_0.out)) | (with_reducible refine Kd.C_alloc ?_ _) | (with_reducible refine Kd.C_drewN ?_ _) | (with_reducible refine Kd.C_drew ?_))); (case side2 => exact HC381_0.out); (case side3 => repeat (first | exact (by repeat (first | (with_reducible exact HR382_0.out) | (with_reducible refine Kd.C_alloc ?_ _) | (with_reducible refine Kd.C_drewN ?_ _) | (with_reducible refine Kd.C_drew ?_) | exact HR382_0.out)) | (with_reducible refine Kd.C_alloc ?_ _) | (with_reducible refine Kd.C_drewN ?_ _) | (with_reducible refine Kd.C_drew ?_))); (case side4 => exact HC382_0.out); rintro e w' ⟨rfl, ⟨nd, rfl⟩⟩; (try first | exact ⟨rfl, _, World.drewN_drewN _ _ _⟩ | exact ⟨rfl, _, Eq.trans (World.drewN_drewN _ _ _) (congrArg (World.drewN _) (Nat.add_assoc _ _ _))⟩)))
           repeat (go_quiet (first | (go_at_call 26; (with_reducible refine (postbaglaw4_same.calls k2 _ _ (rd_L2 x3_1 x11_2) _ _ (rd_L2 x4_1 x11_2) true _ ?side1 ?side2 ?side3 ?side4 A31.out).mono ?_); (case side1 => repeat (first | exact (by repeat (first | (with_reducible exact HR381_0.out) | (with_reducible refine Kd.C_alloc ?_ _) | (with_reducible refine Kd.C_drewN ?_ _) | (with_reducible refine Kd.C_drew ?_) | exact HR381_0.out)) | (with_reducible refine Kd.C_alloc ?_ _) | (with_reducible refine Kd.C_drewN ?_ _) | (with_reducible refine Kd.C_drew ?_))); (case side2 => exact HC381_0.out); (case side3 => repeat (first | exact (by repeat (first | (with_reducible exact HR382_0.out) | (with_reducible refine Kd.C_alloc ?_ _) | (with_reducible refine Kd.C_drewN ?_ _) | (with_reducible refine Kd.C_drew ?_) | exact HR382_0.out)) | (with_reducible refine Kd.C_alloc ?_ _) | (with_reducible refine Kd.C_drewN ?_ _) | (with_reducible refine Kd.C_drew ?_))); (case side4 => exact HC382_0.out); rintro e w' ⟨rfl, ⟨nd, rfl⟩⟩; (try first | exact ⟨rfl, _, World.drewN_drewN _ _ _⟩ | exact ⟨rfl, _, Eq.trans (World.drewN_drewN _ _ _) (congrArg (World.drewN _) (Nat.add_assoc _ _ _))⟩))); try go_wp2_with (first | (go_at_call 26; (with_reducible refine (postbaglaw4_same.calls k2 _ _ (rd_L2 x3_1 x11_2) _ _ (rd_L2 x4_1 x11_2) true _ ?side1 ?side2 ?side3 ?side4 A31.out).mono ?_); (case side1 => repeat (first | exact (by repeat (first | (with_reducible exact HR381_0.out) | (with_reducible refine Kd.C_alloc ?_ _) | (with_reducible refine Kd.C_drewN ?_ _) | (with_reducible refine Kd.C_drew ?_) | exact HR381_0.out)) | (with_reducible refine Kd.C_alloc ?_ _) | (with_reducible refine Kd.C_drewN ?_ _) | (with_reducible refine Kd.C_drew ?_))); (case side2 => exact HC381_0.out); (case side3 => repeat (first | exact (by repeat (first | (with_reducible exact HR382_0.out) | (with_reducible refine Kd.C_alloc ?_ _) | (with_reducible refine Kd.C_drewN ?_ _) | (with_reducible refine Kd.C_drew ?_) | exact HR382_0.out)) | (with_reducible refine Kd.C_alloc ?_ _) | (with_reducible refine Kd.C_drewN ?_ _) | (with_reducible refine Kd.C_drew ?_))); (case side4 => exact HC382_0.out); rintro e w' ⟨rfl, ⟨nd, rfl⟩⟩; (try first | exact ⟨rfl, _, World.drewN_drewN _ _ _⟩ | exact ⟨rfl, _, Eq.trans (World.drewN_drewN _ _ _) (congrArg (World.drewN _) (Nat.add_assoc _ _ _))⟩))))
           go_roundg k2
           case measure => have := HK1.out; have := HK2.out; omega
           case rel => exact ⟨(wrap64 (x11_2 + 1)), (by first | rfl | (simp; done) | (simp [*]; done)), H', ⟨by have := HK1.out; have := HK2.out; omega⟩, ⟨by (with_reducible repeat (first | apply Kd.S_alloc | apply Kd.S_drewN | apply Kd.S_drew)); exact HO_3.out⟩, ⟨by (with_reducible repeat (first | apply Kd.S_alloc | apply Kd.S_drewN | apply Kd.S_drew)); exact HO_4.out⟩, ⟨by repeat (first | (with_reducible first | exact HB.out | apply below_alloc | apply pw_below_drewN | apply below_drew1) | exact HB.out)⟩⟩
          ·replace c32 := Bool.eq_false_iff.mpr c32
           subst c32
           have H1 : (some false) = some r := by rw [if_neg (show ¬ (false = true) by decide)] at H; exact H
           clear H
           have H := H1
           clear H1
           obtain rfl := Option.some.inj H
           obtain ⟨Ao35, co35, eo35⟩ := Kd.S_slice HO_3.out
           subst eo35
           have p381 : 0 ≤ (x11_2 : Int) := of_decide_eq_true (by first | (with_reducible assumption) | assumption)
           have q381 : x11_2 < (x3_1.length : Int) := of_decide_eq_true (by first | (with_reducible assumption) | assumption)
           obtain ⟨ad381, A381_0, c381_0, e381, hx381_0, hl381_0, hi381_0⟩ := at_L2 (Kd.S_reads' HO_3.out).2.2 x11_2 p381 q381
           cases e381
           obtain ⟨ce381, hce381, hMe381, hcc381⟩ := Kd.S_get HO_3.out [] x11_2 p381 (by first | exact q381 | exact of_decide_eq_true (by first | (with_reducible assumption) | assumption) | (have e_ := (Kd.S_reads' HO_3.out).1; omega))
           obtain ⟨ve381_0, rfl, ge381_0⟩ := hMe381
           have hv381_0 := hcc381 0 _ rfl
           rw [Nat.add_zero, show ((Kd.slice 28 k28)).sz = 1 from rfl, Nat.mul_one] at hv381_0
           replace hv381_0 := Option.some.inj (hv381_0.symm.trans hx381_0)
           rw [hv381_0] at ge381_0
           have HL381_0 := Aside0.mk (show Kd.R k28 28 _ _ _ _ (rd_L2 x3_1 x11_2) from ge381_0)
           clear hv381_0 ge381_0
           clear hcc381 hce381
           have HR381_0 := Aside0.mk hi381_0
           have HC381_0 := Aside0.mk hl381_0
           clear hi381_0 hl381_0
           replace p381 := eq_true p381
           replace q381 := eq_true q381
           obtain ⟨Ao36, co36, eo36⟩ := Kd.S_slice HO_4.out
           subst eo36
           have p382 : 0 ≤ (x11_2 : Int) := of_decide_eq_true (by first | (with_reducible assumption) | assumption)
           have q382 : x11_2 < (x4_1.length : Int) := of_decide_eq_true (by first | (with_reducible assumption) | assumption)
           obtain ⟨ad382, A382_0, c382_0, e382, hx382_0, hl382_0, hi382_0⟩ := at_L2 (Kd.S_reads' HO_4.out).2.2 x11_2 p382 q382
           cases e382
           obtain ⟨ce382, hce382, hMe382, hcc382⟩ := Kd.S_get HO_4.out [] x11_2 p382 (by first | exact q382 | exact of_decide_eq_true (by first | (with_reducible assumption) | assumption) | (have e_ := (Kd.S_reads' HO_4.out).1; omega))
           obtain ⟨ve382_0, rfl, ge382_0⟩ := hMe382
           have hv382_0 := hcc382 0 _ rfl
           rw [Nat.add_zero, show ((Kd.slice 28 k28)).sz = 1 from rfl, Nat.mul_one] at hv382_0
           replace hv382_0 := Option.some.inj (hv382_0.symm.trans hx382_0)
           rw [hv382_0] at ge382_0
           have HL382_0 := Aside0.mk (show Kd.R k28 28 _ _ _ _ (rd_L2 x4_1 x11_2) from ge382_0)
           clear hv382_0 ge382_0
           clear hcc382 hce382
           have HR382_0 := Aside0.mk hi382_0
           have HC382_0 := Aside0.mk hl382_0
           clear hi382_0 hl382_0
           replace p382 := eq_true p382
           replace q382 := eq_true q382
           go_wp2_with (first | (go_at_call 26; (with_reducible refine (postbaglaw4_same.calls k2 _ _ (rd_L2 x3_1 x11_2) _ _ (rd_L2 x4_1 x11_2) false _ ?side1 ?side2 ?side3 ?side4 A31.out).mono ?_); (case side1 => repeat (first | exact (by repeat (first | (with_reducible exact HR381_0.out) | (with_reducible refine Kd.C_alloc ?_ _) | (with_reducible refine Kd.C_drewN ?_ _) | (with_reducible refine Kd.C_drew ?_) | exact HR381_0.out)) | (with_reducible refine Kd.C_alloc ?_ _) | (with_reducible refine Kd.C_drewN ?_ _) | (with_reducible refine Kd.C_drew ?_))); (case side2 => exact HC381_0.out); (case side3 => repeat (first | exact (by repeat (first | (with_reducible exact HR382_0.out) | (with_reducible refine Kd.C_alloc ?_ _) | (with_reducible refine Kd.C_drewN ?_ _) | (with_reducible refine Kd.C_drew ?_) | exact HR382_0.out)) | (with_reducible refine Kd.C_alloc ?_ _) | (with_reducible refine Kd.C_drewN ?_ _) | (with_reducible refine Kd.C_drew ?_))); (case side4 => exact HC382_0.out); rintro e w' ⟨rfl, ⟨nd, rfl⟩⟩; (try first | exact ⟨rfl, _, World.drewN_drewN _ _ _⟩ | exact ⟨rfl, _, Eq.trans (World.drewN_drewN _ _ _) (congrArg (World.drewN _) (Nat.add_assoc _ _ _))⟩)))
           repeat (go_quiet (first | (go_at_call 26; (with_reducible refine (postbaglaw4_same.calls k2 _ _ (rd_L2 x3_1 x11_2) _ _ (rd_L2 x4_1 x11_2) false _ ?side1 ?side2 ?side3 ?side4 A31.out).mono ?_); (case side1 => repeat (first | exact (by repeat (first | (with_reducible exact HR381_0.out) | (with_reducible refine Kd.C_alloc ?_ _) | (with_reducible refine Kd.C_drewN ?_ _) | (with_reducible refine Kd.C_drew ?_) | exact HR381_0.out)) | (with_reducible refine Kd.C_alloc ?_ _) | (with_reducible refine Kd.C_drewN ?_ _) | (with_reducible refine Kd.C_drew ?_))); (case side2 => exact HC381_0.out); (case side3 => repeat (first | exact (by repeat (first | (with_reducible exact HR382_0.out) | (with_reducible refine Kd.C_alloc ?_ _) | (with_reducible refine Kd.C_drewN ?_ _) | (with_reducible refine Kd.C_drew ?_) | exact HR382_0.out)) | (with_reducible refine Kd.C_alloc ?_ _) | (with_reducible refine Kd.C_drewN ?_ _) | (with_reducible refine Kd.C_drew ?_))); (case side4 => exact HC382_0.out); rintro e w' ⟨rfl, ⟨nd, rfl⟩⟩; (try first | exact ⟨rfl, _, World.drewN_drewN _ _ _⟩ | exact ⟨rfl, _, Eq.trans (World.drewN_drewN _ _ _) (congrArg (World.drewN _) (Nat.add_assoc _ _ _))⟩))); try go_wp2_with (first | (go_at_call 26; (with_reducible refine (postbaglaw4_same.calls k2 _ _ (rd_L2 x3_1 x11_2) _ _ (rd_L2 x4_1 x11_2) false _ ?side1 ?side2 ?side3 ?side4 A31.out).mono ?_); (case side1 => repeat (first | exact (by repeat (first | (with_reducible exact HR381_0.out) | (with_reducible refine Kd.C_alloc ?_ _) | (with_reducible refine Kd.C_drewN ?_ _) | (with_reducible refine Kd.C_drew ?_) | exact HR381_0.out)) | (with_reducible refine Kd.C_alloc ?_ _) | (with_reducible refine Kd.C_drewN ?_ _) | (with_reducible refine Kd.C_drew ?_))); (case side2 => exact HC381_0.out); (case side3 => repeat (first | exact (by repeat (first | (with_reducible exact HR382_0.out) | (with_reducible refine Kd.C_alloc ?_ _) | (with_reducible refine Kd.C_drewN ?_ _) | (with_reducible refine Kd.C_drew ?_) | exact HR382_0.out)) | (with_reducible refine Kd.C_alloc ?_ _) | (with_reducible refine Kd.C_drewN ?_ _) | (with_reducible refine Kd.C_drew ?_))); (case side4 => exact HC382_0.out); rintro e w' ⟨rfl, ⟨nd, rfl⟩⟩; (try first | exact ⟨rfl, _, World.drewN_drewN _ _ _⟩ | exact ⟨rfl, _, Eq.trans (World.drewN_drewN _ _ _) (congrArg (World.drewN _) (Nat.add_assoc _ _ _))⟩))))
           go_ret
           exact ⟨by first | rfl | (simp [errW_none, errW_some] <;> rfl) | (simp [*, errW_none, errW_some] <;> rfl), by repeat (first | (with_reducible first | exact HB.out | apply below_alloc | apply pw_below_drewN | apply below_drew1) | exact HB.out)⟩
         ·rw [if_neg c30] at H
          exact absurd H (by simp)
        ·rw [if_neg c29] at H
         exact absurd H (by simp)
       ·rw [if_neg c28] at H
        have c28b0 : decide (x11_2 < (x3_1.length : Int)) = false := decide_eq_false c28
        clear c28
        replace H := Option.bind_eq_some_iff.mp H
        obtain ⟨t384, A370, H⟩ := H
        replace H : (some t384) = some r := H
        have A37 := Aside0.mk A370
        clear A370
        obtain rfl := Option.some.inj H
        obtain ⟨Ao38, co38, eo38⟩ := Kd.S_slice HO_3.out
        subst eo38
        go_wp2_with (first | (go_at_call 20; (with_reducible refine (postbaglaw4_known.calls k2  t384 _ A37.out (by first | exact laid_below HL_.out (by repeat (first | (with_reducible first | exact HB.out | apply below_alloc | apply pw_below_drewN | apply below_drew1) | exact HB.out)) | exact laid_drawn HL_.out (by repeat (first | exact Drawn0.refl _ | apply Drawn0.step)))).mono ?_); rintro e w39 ⟨rfl, hb⟩; have n0_ := Aside0.mk (Kd.S_below (by (with_reducible repeat (first | apply Kd.S_alloc | apply Kd.S_drewN | apply Kd.S_drew)); exact HO_3.out) hb); have n1_ := Aside0.mk (Kd.S_below (by (with_reducible repeat (first | apply Kd.S_alloc | apply Kd.S_drewN | apply Kd.S_drew)); exact HO_4.out) hb); have n2_ := Aside0.mk (below_step (by repeat (first | (with_reducible first | exact HB.out | apply below_alloc | apply pw_below_drewN | apply below_drew1) | exact HB.out)) hb); clear HO_3; clear HO_4; clear HB; have HO_3 := n0_; have HO_4 := n1_; have HB := n2_; clear n0_ n1_ n2_; (try clear hb); (try clear hb2); (try clear hk); (try clear hi)))
        repeat (go_quiet (first | (go_at_call 20; (with_reducible refine (postbaglaw4_known.calls k2  t384 _ A37.out (by first | exact laid_below HL_.out (by repeat (first | (with_reducible first | exact HB.out | apply below_alloc | apply pw_below_drewN | apply below_drew1) | exact HB.out)) | exact laid_drawn HL_.out (by repeat (first | exact Drawn0.refl _ | apply Drawn0.step)))).mono ?_); rintro e w39 ⟨rfl, hb⟩; have n0_ := Aside0.mk (Kd.S_below (by (with_reducible repeat (first | apply Kd.S_alloc | apply Kd.S_drewN | apply Kd.S_drew)); exact HO_3.out) hb); have n1_ := Aside0.mk (Kd.S_below (by (with_reducible repeat (first | apply Kd.S_alloc | apply Kd.S_drewN | apply Kd.S_drew)); exact HO_4.out) hb); have n2_ := Aside0.mk (below_step (by repeat (first | (with_reducible first | exact HB.out | apply below_alloc | apply pw_below_drewN | apply below_drew1) | exact HB.out)) hb); clear HO_3; clear HO_4; clear HB; have HO_3 := n0_; have HO_4 := n1_; have HB := n2_; clear n0_ n1_ n2_; (try clear hb); (try clear hb2); (try clear hk); (try clear hi))); try go_wp2_with (first | (go_at_call 20; (with_reducible refine (postbaglaw4_known.calls k2  t384 _ A37.out (by first | exact laid_below HL_.out (by repeat (first | (with_reducible first | exact HB.out | apply below_alloc | apply pw_below_drewN | apply below_drew1) | exact HB.out)) | exact laid_drawn HL_.out (by repeat (first | exact Drawn0.refl _ | apply Drawn0.step)))).mono ?_); rintro e w39 ⟨rfl, hb⟩; have n0_ := Aside0.mk (Kd.S_below (by (with_reducible repeat (first | apply Kd.S_alloc | apply Kd.S_drewN | apply Kd.S_drew)); exact HO_3.out) hb); have n1_ := Aside0.mk (Kd.S_below (by (with_reducible repeat (first | apply Kd.S_alloc | apply Kd.S_drewN | apply Kd.S_drew)); exact HO_4.out) hb); have n2_ := Aside0.mk (below_step (by repeat (first | (with_reducible first | exact HB.out | apply below_alloc | apply pw_below_drewN | apply below_drew1) | exact HB.out)) hb); clear HO_3; clear HO_4; clear HB; have HO_3 := n0_; have HO_4 := n1_; have HB := n2_; clear n0_ n1_ n2_; (try clear hb); (try clear hb2); (try clear hk); (try clear hi))))
        go_ret
        exact ⟨by first | rfl | (simp [errW_none, errW_some] <;> rfl) | (simp [*, errW_none, errW_some] <;> rfl), by repeat (first | (with_reducible first | exact HB.out | apply below_alloc | apply pw_below_drewN | apply below_drew1) | exact HB.out)⟩
end Go.Proofs.YtidcchopmbodkaaDoor.Sp
end
section
namespace Go.Proofs.YtidcchopmbodkaaDoor.Sp
open Go.RowKit Go.Proofs.YtidcchopmbodkaaDoorW.PrintWords Go.Proofs.YtidcchopmbodkaaDoorW.PrintLast Go.Proofs.YtidcchopmbodkaaDoorW.PrintMore
attribute [local go_sem] max2_int min2_int max_two min_two max_three min_three max_four min_four   -- for this text's walks alone
set_option linter.unusedVariables false
set_option linter.unusedSimpArgs false
end Go.Proofs.YtidcchopmbodkaaDoor.Sp
end
section
namespace Go.Proofs.YtidcchopmbodkaaDoor.Sp
open Go.RowKit Go.Proofs.YtidcchopmbodkaaDoorW.PrintWords Go.Proofs.YtidcchopmbodkaaDoorW.PrintLast Go.Proofs.YtidcchopmbodkaaDoorW.PrintMore
attribute [local go_sem] max2_int min2_int max_two min_two max_three min_three max_four min_four   -- for this text's walks alone
set_option linter.unusedVariables false
set_option linter.unusedSimpArgs false
end Go.Proofs.YtidcchopmbodkaaDoor.Sp
end
section
namespace Go.Proofs.YtidcchopmbodkaaDoor.Sp
open Go.RowKit Go.Proofs.YtidcchopmbodkaaDoorW.PrintWords Go.Proofs.YtidcchopmbodkaaDoorW.PrintLast Go.Proofs.YtidcchopmbodkaaDoorW.PrintMore
open Canon
theorem w64n (i : Nat) (h : i < 4611686018427387904) : wrap64 ((i : Int) + 1) = ((i + 1 : Nat) : Int) := by unfold wrap64; omega
theorem rd28_at (l : List S28) (i : Nat) (h : i < l.length) : rd_T28 l (i : Int) = l[i] := by
  unfold rd_T28
  rw [List.getD_eq_getElem?_getD, show ((i : Int)).toNat = i from by omega, List.getElem?_eq_getElem h]
  rfl
theorem same_l0 (a b : List S28) (hab : a.length = b.length) (hl : a.length ≤ 8000000000000) (d : Nat) : ∀ (i k : Nat), i + d = a.length → d < k →
    postbaglaw4_same.l0 k a b (i : Int) = some (decide ((a.drop i).map pr = (b.drop i).map pr)) := by
  induction d with
  | zero =>
    intro i k hi hk
    obtain ⟨k, rfl⟩ : ∃ j, k = j + 1 := ⟨k - 1, by omega⟩
    simp only [postbaglaw4_same.l0]
    rw [if_neg (by omega), List.drop_of_length_le (by omega), List.drop_of_length_le (by omega)]
    simp
  | succ d ih =>
    intro i k hi hk
    obtain ⟨k, rfl⟩ : ∃ j, k = j + 1 := ⟨k - 1, by omega⟩
    simp only [postbaglaw4_same.l0]
    rw [if_pos (by omega), if_pos (by omega), if_pos (by omega), rd28_at a i (by omega), rd28_at b i (by omega), w64n i (by omega), List.drop_eq_getElem_cons (show i < a.length by omega), List.drop_eq_getElem_cons (show i < b.length by omega)]
    generalize a[i] = x
    generalize b[i] = y
    by_cases h : pr x = pr y
    · have h1 : x.f0 = y.f0 := congrArg Prod.fst h
      have h2 : x.f1 = y.f1 := congrArg Prod.snd h
      rw [if_neg (by simp [h1, h2]), ih (i + 1) k (by omega) (by omega)]
      simp [h]
    · rw [if_pos, decide_eq_false]
      · intro e
        rw [List.map_cons, List.map_cons] at e
        exact h (List.cons.inj e).1
      · by_cases h1 : x.f0 = y.f0
        · by_cases h2 : x.f1 = y.f1
          · exact absurd (Prod.ext h1 h2) h
          · simp [h2]
        · simp [h1]
theorem same_f (a b : List S28) (hl : a.length ≤ 8000000000000) (k : Nat) (hk : a.length < k) : postbaglaw4_same.f k a b = some (decide (a.map pr = b.map pr)) := by
  unfold postbaglaw4_same.f
  by_cases h : a.length = b.length
  · rw [if_pos (by omega)]
    exact same_l0 a b h hl a.length 0 k (by omega) hk
  · rw [if_neg (by omega), decide_eq_false]
    intro e
    have := congrArg List.length e
    simp at this
    exact h this
end Go.Proofs.YtidcchopmbodkaaDoor.Sp
end
section
namespace Go.Proofs.YtidcchopmbodkaaDoor.Sp
open Go.RowKit Go.Proofs.YtidcchopmbodkaaDoorW.PrintWords Go.Proofs.YtidcchopmbodkaaDoorW.PrintLast Go.Proofs.YtidcchopmbodkaaDoorW.PrintMore
open Par Canon
theorem digR_suf : ∀ (l : List UInt8) (n m : Nat) (v : List UInt8), digR n l = some (m, v) → ∃ w, l = w ++ v
  | [], n, m, v, h => by simp [digR] at h; exact ⟨[], by rw [h.2]; rfl⟩
  | c :: r, n, m, v, h => by
    unfold digR at h
    split at h
    · split at h
      · cases h
      · obtain ⟨w, hw⟩ := digR_suf r _ m v h
        exact ⟨c :: w, by rw [hw]; rfl⟩
    · simp at h
      exact ⟨[], by rw [← h.2]; rfl⟩
theorem digR_cons (n : Nat) (c : UInt8) (r : List UInt8) : digR n (c :: r) = if dig c then (if 4294967295 < 10 * n + (c.toNat - 48) then none else digR (10 * n + (c.toNat - 48)) r) else some (n, c :: r) := rfl
theorem endR_cons (c : UInt8) (r : List UInt8) : endR (c :: r) = if c = 42 then some (0, r) else if 49 ≤ c ∧ c ≤ 57 then digR 0 (c :: r) else none := rfl
theorem endR_suf (l : List UInt8) (m : Nat) (v : List UInt8) (h : endR l = some (m, v)) : ∃ w, l = w ++ v := by
  cases l with
  | nil => simp [endR] at h
  | cons c r =>
    rw [endR_cons] at h
    by_cases h1 : c = 42
    · rw [if_pos h1] at h
      injection h with h
      exact ⟨[c], by rw [(Prod.mk.inj h).2]; rfl⟩
    · rw [if_neg h1] at h
      by_cases h2 : 49 ≤ c ∧ c ≤ 57
      · rw [if_pos h2] at h
        exact digR_suf _ _ _ _ h
      · rw [if_neg h2] at h; cases h
theorem drop_suf {l : List UInt8} {i : Nat} {w v : List UInt8} (h : l.drop i = w ++ v) (hi : i ≤ l.length) : v = l.drop (l.length - v.length) ∧ v.length ≤ l.length - i ∧ i + w.length = l.length - v.length := by
  have hl := congrArg List.length h
  rw [List.length_drop, List.length_append] at hl
  refine ⟨?_, by omega, by omega⟩
  have : l.drop (i + w.length) = v := by rw [← List.drop_drop, h, List.drop_left]
  rw [← this]
  congr 1
  rw [this]; omega
theorem at_suf (s : ByteArray) (p : Nat) (c : UInt8) (r : List UInt8) (h : s.data.toList.drop p = c :: r) : p < s.size ∧ bt s (p : Int) = (c.toNat : Int) ∧ s.data.toList.drop (p + 1) = r := by
  have hl : s.data.toList.length = s.size := Array.length_toList
  have hlen := congrArg List.length h
  rw [List.length_drop, List.length_cons] at hlen
  have hp : p < s.size := by omega
  obtain ⟨c', hc, hb⟩ := bt_list s p hp
  have e := List.drop_eq_getElem_cons (l := s.data.toList) (i := p) (by omega)
  rw [h] at e
  have e2 : s.data.toList[p]? = some c := by rw [List.getElem?_eq_getElem (by omega)]; rw [(List.cons.inj e).1]
  rw [hc] at e2
  obtain rfl := Option.some.inj e2
  exact ⟨hp, hb, (List.cons.inj e).2.symm⟩
theorem rdig_l0 (s : ByteArray) (hs : s.size ≤ 8192) (d : Nat) : ∀ (i m k : Nat), i + d = s.size → m ≤ 4294967295 → 2 * d + 5 ≤ k →
    (∀ n v, digR m (s.data.toList.drop i) = some (n, v) → postbagref4_end.l0 k s (i : Int) (m : Int) = some ((n : Int), ((s.size - v.length : Nat) : Int))) ∧
    (digR m (s.data.toList.drop i) = none → ∃ j, postbagref4_end.l0 k s (i : Int) (m : Int) = some (-1, j)) := by
  have hl : s.data.toList.length = s.size := Array.length_toList
  induction d with
  | zero =>
    intro i m k hi hm hk
    obtain ⟨k, rfl⟩ : ∃ j, k = j + 2 := ⟨k - 2, by omega⟩
    rw [List.drop_of_length_le (by omega)]
    refine ⟨fun n v h => ?_, fun h => by simp [digR] at h⟩
    simp only [digR, Option.some.injEq, Prod.mk.injEq] at h
    obtain ⟨rfl, rfl⟩ := h
    simp only [postbagref4_end.l0]
    rw [if_neg (by omega)]
    simp only [postbagref4_end.j3]
    rw [if_neg (by simp)]
    simp
    omega
  | succ d ih =>
    intro i m k hi hm hk
    obtain ⟨k, rfl⟩ : ∃ j, k = j + 2 := ⟨k - 2, by omega⟩
    obtain ⟨c, r, hcr⟩ : ∃ c r, s.data.toList.drop i = c :: r := by
      rw [List.drop_eq_getElem_cons (by omega)]; exact ⟨_, _, rfl⟩
    obtain ⟨h1, h2, h3⟩ := at_suf s i c r hcr
    have hc := c.toNat_lt
    have hlr : r.length + 1 = s.size - i := by
      have := congrArg List.length hcr
      rw [List.length_drop, List.length_cons] at this
      omega
    simp only [postbagref4_end.l0]
    rw [if_pos (by omega), if_pos (by omega), h2, hcr]
    have hj : (if (c.toNat : Int) ≥ 48 then postbagref4_end.j3 (k + 1) s (i : Int) (m : Int) (decide ((c.toNat : Int) ≤ 57)) else postbagref4_end.j3 (k + 1) s (i : Int) (m : Int) false) = postbagref4_end.j3 (k + 1) s (i : Int) (m : Int) (dig c) := by
      by_cases hd : dig c = true
      · rw [dig_iff] at hd
        rw [if_pos (by omega), decide_eq_true (by omega), (dig_iff c).2 hd]
      · have hd' : dig c = false := by simpa using hd
        rw [dig_iff] at hd
        by_cases h48 : (c.toNat : Int) ≥ 48
        · rw [if_pos h48, decide_eq_false (by omega), hd']
        · rw [if_neg h48, hd']
    rw [hj]
    simp only [postbagref4_end.j3]
    rw [digR_cons]
    by_cases hd : dig c = true
    · have hd' := (dig_iff c).1 hd
      have e0 : wrap64 (10 * (m : Int)) = 10 * (m : Int) := by unfold wrap64; omega
      have e2 : ((c.toNat : Int) - 48) % 256 = ((c.toNat - 48 : Nat) : Int) := by omega
      have e1 : wrap64 (wrap64 (10 * (m : Int)) + ((c.toNat : Int) - 48) % 256) = ((10 * m + (c.toNat - 48) : Nat) : Int) := by rw [e0, e2]; unfold wrap64; omega
      clear e0 e2
      rw [if_pos hd, if_pos hd, h2, e1]
      by_cases hbig : 4294967295 < 10 * m + (c.toNat - 48)
      · rw [if_pos hbig, if_pos (by omega), if_pos (by omega), if_pos (by omega)]
        exact ⟨fun n v h => (by cases h), fun _ => ⟨_, rfl⟩⟩
      · rw [if_neg hbig, if_pos (by omega), if_pos (by omega), if_neg (by omega), w64n i (by omega), ← h3]
        exact ih (i + 1) _ k (by omega) (by omega) (by omega)
    · rw [if_neg hd, if_neg hd]
      refine ⟨fun n v h => ?_, fun h => (by cases h)⟩
      simp only [Option.some.injEq, Prod.mk.injEq] at h
      obtain ⟨rfl, rfl⟩ := h
      rw [List.length_cons, hlr, show s.size - (s.size - i) = i from by omega]
theorem rend_f (s : ByteArray) (hs : s.size ≤ 8192) (i k : Nat) (hi : i ≤ s.size) (hk : 20000 ≤ k) :
    (∀ n v, endR (s.data.toList.drop i) = some (n, v) → postbagref4_end.f k s (i : Int) = some ((n : Int), ((s.size - v.length : Nat) : Int))) ∧
    (endR (s.data.toList.drop i) = none → ∃ j, postbagref4_end.f k s (i : Int) = some (-1, j)) := by
  have hl : s.data.toList.length = s.size := Array.length_toList
  obtain ⟨k, rfl⟩ : ∃ j, k = j + 2 := ⟨k - 2, by omega⟩
  unfold postbagref4_end.f
  by_cases h0 : i < s.size
  · obtain ⟨c, r, hcr⟩ : ∃ c r, s.data.toList.drop i = c :: r := by
      rw [List.drop_eq_getElem_cons (by omega)]; exact ⟨_, _, rfl⟩
    obtain ⟨h1, h2, h3⟩ := at_suf s i c r hcr
    have hlr : r.length + 1 = s.size - i := by
      have := congrArg List.length hcr
      rw [List.length_drop, List.length_cons] at this
      omega
    have hc := c.toNat_lt
    rw [if_pos (by omega), if_pos (by omega), h2, hcr]
    simp only [postbagref4_end.j0]
    rw [endR_cons]
    by_cases hst : c = 42
    · subst hst
      rw [if_pos rfl, if_pos (by decide), w64n i (by omega)]
      refine ⟨fun n v h => ?_, fun h => (by cases h)⟩
      simp only [Option.some.injEq, Prod.mk.injEq] at h
      obtain ⟨rfl, rfl⟩ := h
      rw [show s.size - r.length = i + 1 from by omega]
      rfl
    · have hst' : c.toNat ≠ 42 := fun e => hst ((byte_eq c 42 (by omega)).2 e)
      have hj : (if (c.toNat : Int) < 49 then postbagref4_end.j1 (k + 1) s (i : Int) true else postbagref4_end.j1 (k + 1) s (i : Int) (decide ((c.toNat : Int) > 57))) = postbagref4_end.j1 (k + 1) s (i : Int) (!decide (49 ≤ c.toNat ∧ c.toNat ≤ 57)) := by
        by_cases h49 : (c.toNat : Int) < 49
        · rw [if_pos h49, decide_eq_false (by omega)]; rfl
        · rw [if_neg h49]
          by_cases h57 : (c.toNat : Int) > 57
          · rw [decide_eq_true h57, decide_eq_false (by omega)]; rfl
          · rw [decide_eq_false h57, decide_eq_true (by omega)]; rfl
      have e42 : ¬ (((c.toNat : Int) == 42) = true) := by rw [beq_iff_eq]; omega
      rw [if_neg hst, if_neg e42]
      by_cases hdg : 49 ≤ c ∧ c ≤ 57
      · have hdg' : 49 ≤ c.toNat ∧ c.toNat ≤ 57 := by simpa [UInt8.le_iff_toNat_le] using hdg
        rw [if_pos hdg, if_neg (by omega), if_pos (by omega), if_pos (by omega), h2, hj, decide_eq_true hdg']
        simp only [postbagref4_end.j1]
        rw [if_neg (by simp)]
        have := rdig_l0 s hs (s.size - i) i 0 k (by omega) (by omega) (by omega)
        rw [hcr] at this
        exact this
      · have hdg' : ¬ (49 ≤ c.toNat ∧ c.toNat ≤ 57) := fun h => hdg (by simpa [UInt8.le_iff_toNat_le] using h)
        rw [if_neg hdg, if_neg (by omega), if_pos (by omega), if_pos (by omega), h2, hj, decide_eq_false hdg']
        simp only [postbagref4_end.j1]
        rw [if_pos (by rfl)]
        exact ⟨fun n v h => (by cases h), fun _ => ⟨_, rfl⟩⟩
  · rw [if_neg (by omega), List.drop_of_length_le (by omega)]
    simp only [postbagref4_end.j0]
    rw [if_neg (by simp), if_pos (by omega)]
    simp only [postbagref4_end.j1]
    exact ⟨fun n v h => (by simp [endR] at h), fun _ => ⟨_, rfl⟩⟩
def finR (acc : List S28) : Option (List Rg) → List S28 × Int
  | none => ([], 40)
  | some l => if 64 < (acc ++ l.map un).length then ([], 41) else (acc ++ l.map un, 0)
theorem manyR_succ (k : Nat) (u : List UInt8) : manyR (k + 1) u = (oneR u).bind fun x => match x.2 with
    | [] => some [x.1]
    | c :: v => if c = 44 then (manyR k v).map (x.1 :: ·) else none := rfl
theorem oneR_eq (u : List UInt8) : oneR u = (endR u).bind fun x => match x.2 with
    | [] => some (((x.1 : Int), (x.1 : Int)), [])
    | c :: v => if c = 58 then (endR v).bind fun y => some (((x.1 : Int), (y.1 : Int)), y.2) else some (((x.1 : Int), (x.1 : Int)), c :: v) := rfl
theorem finR_map (acc : List S28) (r : Rg) (o : Option (List Rg)) : finR acc (o.map (r :: ·)) = finR (acc ++ [un r]) o := by
  cases o with
  | none => rfl
  | some l =>
    show (if 64 < (acc ++ (r :: l).map un).length then _ else _) = (if 64 < (acc ++ [un r] ++ l.map un).length then _ else _)
    have e : acc ++ (r :: l).map un = acc ++ [un r] ++ l.map un := by simp
    rw [e]
theorem rparse_j3 (s : ByteArray) (hs : s.size ≤ 4096) (acc : List S28) (ha : acc.length ≤ 5000) (a b : Int) (p k : Nat) (hp : p ≤ s.size) :
    postbagref4_Parse.j3 (k + 1) s acc a (p : Int) b false = if p = s.size then some (finR acc (some [(a, b)])) else match s.data.toList.drop p with
      | [] => none
      | c :: _ => if c = 44 then postbagref4_Parse.l0 k s (acc ++ [⟨a, b⟩]) ((p + 1 : Nat) : Int) else some ([], 40) := by
  simp only [postbagref4_Parse.j3]
  rw [if_neg (by simp), if_pos (by omega), Option.bind_some]
  by_cases h : p = s.size
  · rw [if_pos h, if_pos (by omega)]
    show _ = some (if 64 < (acc ++ [un (a, b)]).length then ([], 41) else (acc ++ [un (a, b)], 0))
    by_cases h2 : 64 < (acc ++ [un (a, b)]).length
    · rw [if_pos h2, if_pos (by show ((acc ++ [un (a, b)]).length : Int) > 64; omega)]
    · rw [if_neg h2, if_neg (by show ¬ ((acc ++ [un (a, b)]).length : Int) > 64; omega)]; rfl
  · rw [if_neg h, if_neg (by omega), if_pos (by omega), if_pos (by omega)]
    have hl : s.data.toList.length = s.size := Array.length_toList
    obtain ⟨c, r, hcr⟩ : ∃ c r, s.data.toList.drop p = c :: r := by
      rw [List.drop_eq_getElem_cons (by omega)]; exact ⟨_, _, rfl⟩
    obtain ⟨h1, h2, h3⟩ := at_suf s p c r hcr
    rw [h2, hcr, w64n p (by omega)]
    show _ = if c = 44 then _ else _
    by_cases hc : c = 44
    · subst hc; rw [if_pos (by decide), if_pos rfl]
    · have : c.toNat ≠ 44 := fun e => hc ((byte_eq c 44 (by omega)).2 e)
      rw [if_neg (by omega), if_neg hc]
theorem rparse_l0 (s : ByteArray) (hs : s.size ≤ 4096) (f : Nat) : ∀ (i k : Nat) (acc : List S28), i ≤ s.size → s.size - i < f → acc.length ≤ i → 30000 + 4 * f ≤ k →
    postbagref4_Parse.l0 k s acc (i : Int) = some (finR acc (manyR f (s.data.toList.drop i))) := by
  have hl : s.data.toList.length = s.size := Array.length_toList
  induction f with
  | zero => intro i k acc h1 h2; omega
  | succ f ih =>
    intro i k acc hi hf ha hk
    obtain ⟨k, rfl⟩ : ∃ j, k = j + 4 := ⟨k - 4, by omega⟩
    have hf' : s.size - i ≤ f := by omega
    obtain ⟨r1, r2⟩ := rend_f s (by omega) i (k + 3) hi (by omega)
    rw [manyR_succ, oneR_eq]
    simp only [postbagref4_Parse.l0]
    -- behind the piece: its end at p, with the text's rest v
    have tail : ∀ (a b : Int) (v : List UInt8) (kk : Nat), v = s.data.toList.drop (s.size - v.length) → v.length ≤ s.size - i → (∀ c w, v = c :: w → w.length < s.size - i) → k ≤ kk →
        postbagref4_Parse.j3 (kk + 1) s acc a ((s.size - v.length : Nat) : Int) b false = some (finR acc (match v with
          | [] => some [(a, b)]
          | c :: w => if c = 44 then (manyR f w).map ((a, b) :: ·) else none)) := by
      intro a b v kk hv hvl hw hkk
      rw [rparse_j3 s hs acc (by omega) a b _ kk (by omega)]
      cases v with
      | nil =>
        rw [if_pos (by simp)]
      | cons c w =>
        rw [List.length_cons] at hv hvl ⊢
        rw [if_neg (by omega), ← hv]
        show (if c = 44 then _ else _) = some (finR acc (if c = 44 then _ else none))
        by_cases hc : c = 44
        · rw [if_pos hc, if_pos hc, finR_map]
          have hwl := hw c w rfl
          have hwd : s.data.toList.drop (s.size - (w.length + 1) + 1) = w := (at_suf s _ c w hv.symm).2.2
          have := ih (s.size - (w.length + 1) + 1) kk (acc ++ [⟨a, b⟩]) (by omega) (by rw [show s.size - (s.size - (w.length + 1) + 1) = w.length from by omega]; omega) (by simp; omega) (by omega)
          rw [hwd] at this
          exact this
        · rw [if_neg hc, if_neg hc]; rfl
    cases hE : endR (s.data.toList.drop i) with
    | none =>
      obtain ⟨j, hj⟩ := r2 hE
      rw [hj, Option.bind_some, if_neg (by show ¬ (-1 : Int) ≥ 0; decide)]
      simp only [postbagref4_Parse.j1]
      rw [if_neg (by simp)]
      simp only [postbagref4_Parse.j2]
      rw [if_pos (by decide)]
      simp only [postbagref4_Parse.j3]
      rw [if_pos trivial]
      rfl
    | some x =>
      obtain ⟨n, v⟩ := x
      rw [r1 n v hE, Option.bind_some]
      obtain ⟨w0, hw0⟩ := endR_suf _ _ _ hE
      obtain ⟨d1, d2, d3⟩ := drop_suf hw0 (by omega)
      rw [hl] at d1 d2 d3
      show (if (n : Int) ≥ 0 then _ else _) = _
      rw [if_pos (by omega)]
      cases v with
      | nil =>
        rw [if_neg (by simp)]
        simp only [postbagref4_Parse.j1]
        rw [if_neg (by simp)]
        simp only [postbagref4_Parse.j2]
        rw [if_neg (by omega), decide_eq_false (by omega)]
        have := tail (n : Int) (n : Int) [] k (by rw [← d1]) d2 (fun c w h => by cases h) (Nat.le_refl _)
        refine Eq.trans this ?_
        rfl
      | cons c v1 =>
        obtain ⟨e1, e2, e3⟩ := at_suf s _ c v1 d1.symm
        rw [List.length_cons] at d1 d2 d3 e1 e2 e3 ⊢
        rw [if_pos (by omega), if_pos (by omega), e2]
        simp only [postbagref4_Parse.j1]
        have hcl := c.toNat_lt
        by_cases hc : c = 58
        · subst hc
          have e58 : (((58 : UInt8).toNat : Int) == 58) = true := by decide
          rw [if_pos e58, w64n _ (by omega)]
          obtain ⟨q1, q2⟩ := rend_f s (by omega) (s.size - (v1.length + 1) + 1) (k + 2) (by omega) (by omega)
          rw [e3] at q1 q2
          simp only [Option.bind_some]
          rw [if_pos trivial]
          cases hE2 : endR v1 with
          | none =>
            obtain ⟨j, hj⟩ := q2 hE2
            rw [hj, Option.bind_some]
            simp only [postbagref4_Parse.j2]
            rw [if_neg (by omega), decide_eq_true (by decide)]
            simp only [postbagref4_Parse.j3]
            rw [if_pos trivial]
            rfl
          | some y =>
            obtain ⟨m, v2⟩ := y
            rw [q1 m v2 hE2, Option.bind_some]
            obtain ⟨w1, hw1⟩ := endR_suf _ _ _ hE2
            rw [← e3] at hw1
            obtain ⟨g1, g2, g3⟩ := drop_suf hw1 (by omega)
            rw [hl] at g1 g2 g3
            simp only [postbagref4_Parse.j2]
            rw [if_neg (by omega), decide_eq_false (by omega)]
            have := tail (n : Int) (m : Int) v2 k g1 (by omega) (fun c w h => by rw [h, List.length_cons] at g2; omega) (Nat.le_refl _)
            refine Eq.trans this ?_
            rfl
        · have h58 : c.toNat ≠ 58 := fun e => hc ((byte_eq c 58 (by omega)).2 e)
          have e58 : ¬ (((c.toNat : Int) == 58) = true) := by rw [beq_iff_eq]; omega
          rw [if_neg e58]
          simp only [postbagref4_Parse.j2]
          rw [if_neg (by omega), decide_eq_false (by omega)]
          have := tail (n : Int) (n : Int) (c :: v1) k (by rw [List.length_cons]; exact d1) (by rw [List.length_cons]; exact d2) (fun c' w h => by injection h with _ h; subst h; omega) (Nat.le_refl _)
          rw [List.length_cons] at this
          refine Eq.trans this ?_
          simp only [Option.bind_some]
          rw [if_neg hc]
          rfl
theorem rparse_f (s : ByteArray) (k : Nat) (hk : 60000 ≤ k) : postbagref4_Parse.f k s = some (parseA s) := by
  unfold postbagref4_Parse.f parseA
  by_cases h : (s.size : Int) > 4096
  · rw [if_pos h, if_pos (by omega)]
  · rw [if_neg h, if_neg (by omega)]
    have hl : s.data.toList.length = s.size := Array.length_toList
    have := rparse_l0 s (by omega) (s.size + 1) 0 k [] (by omega) (by omega) (by simp) (by omega)
    refine Eq.trans this ?_
    rw [List.drop_zero, ← many_eq _ _ (by omega)]
    cases manyP (s.size + 1) s.data.toList with
    | none => rfl
    | some l =>
      show some (if 64 < ([] ++ l.map un).length then _ else _) = some (if 64 < l.length then _ else _)
      rw [List.nil_append, List.length_map]
end Go.Proofs.YtidcchopmbodkaaDoor.Sp
end
section
namespace Go.Proofs.YtidcchopmbodkaaDoor.Sp
open Go.RowKit Go.Proofs.YtidcchopmbodkaaDoorW.PrintWords Go.Proofs.YtidcchopmbodkaaDoorW.PrintLast Go.Proofs.YtidcchopmbodkaaDoorW.PrintMore
theorem known_50 : postbaglaw4_known.f 50 = some true := by kernel_rfl
end Go.Proofs.YtidcchopmbodkaaDoor.Sp
end
section
namespace Go.Proofs.YtidcchopmbodkaaDoor.Sp
open Go.RowKit Go.Proofs.YtidcchopmbodkaaDoorW.PrintWords Go.Proofs.YtidcchopmbodkaaDoorW.PrintLast Go.Proofs.YtidcchopmbodkaaDoorW.PrintMore
open Par Canon
theorem known_p (k : Nat) (hk : 50 ≤ k) : postbaglaw4_known.f k = some true := at_rounds postbaglaw4_known.mono hk known_50
def Fits (l : List S38) : Prop := ∀ x ∈ l, x.f1.length ≤ 8796093022208 ∧ x.f4.length ≤ 17592186044416 ∧ x.f5.length ≤ 8796093022208 ∧ ∀ y ∈ x.f5, y.length ≤ 8796093022208
theorem rd38_at (l : List S38) (i : Nat) (h : i < l.length) : rd_T38 l (i : Int) = l[i] := by
  unfold rd_T38
  rw [List.getD_eq_getElem?_getD, show ((i : Int)).toNat = i from by omega, List.getElem?_eq_getElem h]
  rfl
theorem rdL2_at (l : List (List S28)) (i : Nat) (h : i < l.length) : rd_L2 l (i : Int) = l[i] := by
  unfold rd_L2
  rw [List.getD_eq_getElem?_getD, show ((i : Int)).toNat = i from by omega, List.getElem?_eq_getElem h]
  rfl
theorem long_l1 (l : List S38) (hf : Fits l) (i : Nat) (hi : i < l.length) (hl : l.length ≤ 8796093022208) (P : Nat → Prop)
    (next : ∀ (k : Nat) (n : Int), 0 ≤ n → n ≤ 3000 → P k → ∃ b, postbaglaw4_long.l0 k l n ((i + 1 : Nat) : Int) = some b ∧ (b = false → l.length ≤ 30)) (d : Nat) :
    ∀ (j k : Nat) (n : Int), j + d = l[i].f5.length → 0 ≤ n → n ≤ 70368744200000 → (∀ k', k ≤ k' → P k') → ∃ b, postbaglaw4_long.l1 (k + (d + 1)) l n (i : Int) (j : Int) = some b ∧ (b = false → l.length ≤ 30) := by
  have hfi := hf l[i] (List.getElem_mem hi)
  have stop : ∀ (k : Nat) (n : Int), 0 ≤ n → P k → ∃ b, (if n > 3000 then some true else postbaglaw4_long.l0 k l n (wrap64 ((i : Int) + 1))) = some b ∧ (b = false → l.length ≤ 30) := by
    intro k n h0 hP
    by_cases h : n > 3000
    · rw [if_pos h]; exact ⟨true, rfl, fun h => by cases h⟩
    · rw [if_neg h, w64n i (by omega)]
      exact next k n h0 (by omega) hP
  induction d with
  | zero =>
    intro j k n hj h0 h1 hP
    rw [Nat.zero_add]
    simp only [postbaglaw4_long.l1]
    rw [if_pos (by omega), if_pos (by omega), rd38_at l i hi, if_neg (by omega)]
    exact stop k n h0 (hP k (Nat.le_refl _))
  | succ d ih =>
    intro j k n hj h0 h1 hP
    have ih' := ih (j + 1) k
    have stop' := stop (k + (d + 1)) n h0 (hP _ (by omega))
    rw [show k + (d + 1 + 1) = (k + (d + 1)) + 1 from by omega]
    generalize k + (d + 1) = K at ih' stop' ⊢
    have hjl : j < l[i].f5.length := by omega
    simp only [postbaglaw4_long.l1]
    rw [if_pos (by omega), if_pos (by omega), rd38_at l i hi, if_pos (by omega)]
    by_cases h3 : n ≤ 3000
    · rw [if_pos h3, if_pos (by omega), rdL2_at _ j hjl, w64n j (by omega)]
      have hy := hfi.2.2.2 _ (List.getElem_mem hjl)
      have hw : wrap64 (n + (l[i].f5[j].length : Int)) = n + (l[i].f5[j].length : Int) := by unfold wrap64; omega
      rw [hw]
      exact ih' _ (by omega) (by omega) (by omega) hP
    · rw [if_neg h3]
      exact stop'
theorem long_end (l : List S38) (hl : l.length ≤ 8796093022208) (n i : Int) (k : Nat) : ∃ b, postbaglaw4_long.j1 (k + 1) l n i false = some b ∧ (b = false → l.length ≤ 30) := by
  simp only [postbaglaw4_long.j1]
  rw [if_neg (by simp)]
  refine ⟨_, rfl, fun h => ?_⟩
  have := of_decide_eq_false h
  omega
theorem long_l0 (l : List S38) (hf : Fits l) (hl : l.length ≤ 8796093022208) (d : Nat) : ∀ i : Nat, i + d = l.length → ∃ K, ∀ k, K ≤ k → ∀ n : Int, 0 ≤ n → n ≤ 3000 → ∃ b, postbaglaw4_long.l0 k l n (i : Int) = some b ∧ (b = false → l.length ≤ 30) := by
  induction d with
  | zero =>
    intro i hi
    refine ⟨5, fun k hk n h0 h1 => ?_⟩
    obtain ⟨k, rfl⟩ : ∃ j, k = j + 2 := ⟨k - 2, by omega⟩
    simp only [postbaglaw4_long.l0]
    rw [if_neg (by omega)]
    exact long_end l hl n _ k
  | succ d ih =>
    intro i hi
    obtain ⟨K, hK⟩ := ih (i + 1) (by omega)
    have hil : i < l.length := by omega
    refine ⟨K + l[i].f5.length + 10, fun k hk n h0 h1 => ?_⟩
    obtain ⟨k, rfl⟩ : ∃ j, k = j + 2 := ⟨k - 2, by omega⟩
    simp only [postbaglaw4_long.l0]
    rw [if_pos (by omega)]
    by_cases h30 : (i : Int) < 30
    · rw [decide_eq_true h30]
      simp only [postbaglaw4_long.j1]
      have hx := hf l[i] (List.getElem_mem hil)
      rw [if_pos trivial, if_pos (by omega), if_pos (by omega), rd38_at l i hil]
      have e1 : wrap64 (n + (l[i].f1.length : Int)) = n + (l[i].f1.length : Int) := by unfold wrap64; omega
      have e2 : wrap64 (n + (l[i].f1.length : Int) + (l[i].f4.length : Int)) = n + (l[i].f1.length : Int) + (l[i].f4.length : Int) := by unfold wrap64; omega
      have e3 : wrap64 (n + (l[i].f1.length : Int) + (l[i].f4.length : Int) + (l[i].f5.length : Int)) = n + (l[i].f1.length : Int) + (l[i].f4.length : Int) + (l[i].f5.length : Int) := by unfold wrap64; omega
      rw [e1, e2, e3]
      have := long_l1 l hf i hil hl (fun k => K ≤ k) (fun k n a b c => hK k c n a b) l[i].f5.length 0 (k - (l[i].f5.length + 1)) (n + (l[i].f1.length : Int) + (l[i].f4.length : Int) + (l[i].f5.length : Int)) (by omega) (by omega) (by omega) (fun k' h => by omega)
      rw [show k - (l[i].f5.length + 1) + (l[i].f5.length + 1) = k from by omega] at this
      exact this
    · rw [decide_eq_false h30]
      exact long_end l hl n _ k
theorem long_f (l : List S38) (hf : Fits l) (hl : l.length ≤ 8796093022208) : ∃ K, ∀ k, K ≤ k → ∃ b, postbaglaw4_long.f k l = some b ∧ (b = false → l.length ≤ 30) := by
  obtain ⟨K, hK⟩ := long_l0 l hf hl l.length 0 (by omega)
  exact ⟨K, fun k hk => hK k hk 0 (Int.le_refl _) (by decide)⟩
def turnN (k n : Nat) : Nat := if k < n then k else 2 * n - 1 - k
theorem turn_f (k n : Nat) (hn : n ≤ 30) (hk : k < 2 * n) : postbaglaw4_turn.f (k : Int) (n : Int) = some ((turnN k n : Nat) : Int) ∧ turnN k n < n := by
  unfold postbaglaw4_turn.f turnN
  by_cases h : k < n
  · rw [if_pos (by omega), if_pos h]; exact ⟨rfl, h⟩
  · have e1 : wrap64 (2 * (n : Int)) = 2 * (n : Int) := by unfold wrap64; omega
    have e2 : wrap64 (2 * (n : Int) - 1) = 2 * (n : Int) - 1 := by unfold wrap64; omega
    have e3 : wrap64 (2 * (n : Int) - 1 - (k : Int)) = ((2 * n - 1 - k : Nat) : Int) := by unfold wrap64; omega
    rw [if_neg (by omega), if_neg h, e1, e2, e3]
    exact ⟨rfl, by omega⟩
theorem parses_l1 (g : List (List S28)) (hg : ∀ x ∈ g, x.length ≤ 5000) (hl : g.length ≤ 60) (d : Nat) : ∀ (i k : Nat), i + d = g.length → 6000 + d ≤ k → postbaglaw4_SpanParses.l1 k g g (i : Int) = some true := by
  induction d with
  | zero =>
    intro i k hi hk
    obtain ⟨k, rfl⟩ : ∃ j, k = j + 1 := ⟨k - 1, by omega⟩
    simp only [postbaglaw4_SpanParses.l1]
    rw [if_neg (by omega), known_p k (by omega)]
    rfl
  | succ d ih =>
    intro i k hi hk
    obtain ⟨k, rfl⟩ : ∃ j, k = j + 1 := ⟨k - 1, by omega⟩
    simp only [postbaglaw4_SpanParses.l1]
    have hil : i < g.length := by omega
    have hx := hg g[i] (List.getElem_mem hil)
    rw [if_pos (by omega), if_pos (by omega), if_pos (by omega), rdL2_at g i hil, same_f _ _ (by omega) k (by omega), Option.bind_some, decide_eq_true rfl, if_pos rfl, w64n i (by omega)]
    exact ih (i + 1) k (by omega) (by omega)
theorem parseA_len (s : ByteArray) : (parseA s).1.length ≤ 64 := by
  unfold parseA
  split
  · simp
  · cases manyP (s.size + 1) s.data.toList with
    | none => simp [finA]
    | some l =>
      show (if 64 < l.length then (([], 41) : List S28 × Int) else (l.map un, 0)).1.length ≤ 64
      split
      · simp
      · rw [List.length_map]; omega
theorem parses_l0 (l : List S38) (hl : l.length ≤ 30) (d : Nat) : ∀ (i k : Nat) (g : List (List S28)), i + d = 2 * l.length → g.length = i → (∀ x ∈ g, x.length ≤ 5000) → 70000 + d ≤ k → postbaglaw4_SpanParses.l0 k l g g (i : Int) = some true := by
  have e2n : wrap64 (2 * (l.length : Int)) = 2 * (l.length : Int) := by unfold wrap64; omega
  induction d with
  | zero =>
    intro i k g hi hg hx hk
    obtain ⟨k, rfl⟩ : ∃ j, k = j + 1 := ⟨k - 1, by omega⟩
    simp only [postbaglaw4_SpanParses.l0]
    rw [e2n, if_neg (by omega)]
    exact parses_l1 g hx (by omega) g.length 0 k (by omega) (by omega)
  | succ d ih =>
    intro i k g hi hg hx hk
    obtain ⟨k, rfl⟩ : ∃ j, k = j + 1 := ⟨k - 1, by omega⟩
    obtain ⟨t1, t2⟩ := turn_f i l.length hl (by omega)
    simp only [postbaglaw4_SpanParses.l0]
    rw [e2n, if_pos (by omega), t1, Option.bind_some, if_pos (by omega), if_pos (by omega), rd38_at l _ t2, rparse_f _ k (by omega), Option.bind_some]
    generalize l[turnN i l.length].f0 = s
    have hp : span_Parse.f s = some (parseA s) := rfl
    have hpl := parseA_len s
    rw [hp, Option.bind_some]
    show ((postbaglaw4_num.f (parseA s).2).bind _) = _
    have hn : postbaglaw4_num.f (parseA s).2 = some (parseA s).2 := rfl
    rw [hn, Option.bind_some, if_pos rfl, same_f _ _ (by omega) k (by omega), Option.bind_some, decide_eq_true rfl, if_pos rfl, if_pos (by omega), if_pos (by omega), w64n i (by omega)]
    refine ih (i + 1) k _ (by omega) (by simp; omega) (fun x hxm => ?_) (by omega)
    rcases List.mem_append.1 hxm with h | h
    · exact hx x h
    · rw [List.mem_singleton] at h; subst h; omega
theorem parses_true (l : List S38) (hf : Fits l) (hl : l.length ≤ 8796093022208) : ∃ k, postbaglaw4_SpanParses.f k l = some true := by
  obtain ⟨K, hK⟩ := long_f l hf hl
  refine ⟨K + 80000, ?_⟩
  unfold postbaglaw4_SpanParses.f
  obtain ⟨b, h1, h2⟩ := hK (K + 80000) (by omega)
  rw [h1, Option.bind_some]
  cases b with
  | true => rw [if_pos rfl]
  | false =>
    rw [if_neg (by simp)]
    exact parses_l0 l (h2 rfl) (2 * l.length) 0 _ [] (by omega) rfl (by simp) (by have := h2 rfl; omega)
end Go.Proofs.YtidcchopmbodkaaDoor.Sp
namespace Go.Proofs.YtidcchopmbodkaaDoor.Pure
open Go.Proofs.YtidcchopmbodkaaDoor.Sp
theorem sizes38 : Tryd.prog.bytesOf 28 = 16 ∧ Tryd.prog.bytesOf 3 = 8 ∧ Tryd.prog.bytesOf 23 = 24 ∧ Tryd.prog.bytesOf 38 = 104 := ⟨by kernel_rfl, by kernel_rfl, by kernel_rfl, by kernel_rfl⟩
def Good38 (x : S38) : Prop := x.f0.size ≤ 140737488351232 ∧ ((∀ y ∈ x.f1, (Lit.int .i64 y.f0).wf = true ∧ (Lit.int .i64 y.f1).wf = true) ∧ x.f1.length * Tryd.prog.bytesOf 28 ≤ 140737488351232) ∧ (Lit.int .i64 x.f2).wf = true ∧ (Lit.int .i64 x.f3).wf = true ∧
  ((∀ y ∈ x.f4, (Lit.int .i64 y).wf = true) ∧ x.f4.length * Tryd.prog.bytesOf 3 ≤ 140737488351232) ∧ ((∀ y ∈ x.f5, (∀ z ∈ y, (Lit.int .i64 z.f0).wf = true ∧ (Lit.int .i64 z.f1).wf = true) ∧ y.length * Tryd.prog.bytesOf 28 ≤ 140737488351232) ∧ x.f5.length * Tryd.prog.bytesOf 23 ≤ 140737488351232)
theorem fits_of {l : List S38} (h : ∀ x ∈ l, Good38 x) : Fits l := by
  obtain ⟨s1, s2, s3, _⟩ := sizes38
  intro x hx
  obtain ⟨_, ⟨_, h1⟩, _, _, ⟨_, h4⟩, ⟨h5, h6⟩⟩ := h x hx
  rw [s1] at h1
  rw [s2] at h4
  rw [s3] at h6
  refine ⟨by omega, by omega, by omega, fun y hy => ?_⟩
  have := (h5 y hy).2
  rw [s1] at this
  omega
theorem SpanParses (l : List S38) (h : (∀ x ∈ l, Good38 x) ∧ l.length * Tryd.prog.bytesOf 38 ≤ 140737488351232) : ∃ k, postbaglaw4_SpanParses.f k l = some true :=
  parses_true l (fits_of h.1) (by have := h.2; rw [sizes38.2.2.2] at this; omega)
end Go.Proofs.YtidcchopmbodkaaDoor.Pure
end
section
namespace Go.Proofs.YtidcchopmbodkaaDoor.Sp
open Go.ChangeShapes Go.WideShapes Go.ChangeAt Go.RowKit
theorem gPow : Tryd.prog.globalNamed "internal/strconv.uint64pow10" = some 1 := by kernel_rfl
theorem tPow : (Tryd.prog.globals[1]?).map (·.type) = some 134 := by kernel_rfl
theorem door_met (os : Os) (args : Array Value) : laidMetH Tryd.prog [("math/bits.deBruijn32tab", Rows.laid_math_bits_deBruijn32tab), ("math/bits.deBruijn64tab", Rows.laid_math_bits_deBruijn64tab), ("internal/strconv.uint64pow10", Rows.laid_internal_strconv_uint64pow10)] ((World.doorLaid Tryd.prog 400 os).forCall (fun _ _ => 0) ⟨#[], args, []⟩).memory :=
  laidMetH_of_parts3 (fuel := 8) (laidMet_of_run' 8 (by kernel_rfl) (by kernel_rfl)) (by kernel_rfl) (by kernel_rfl)
theorem pow_data {H : Type} : (Rows.laid_internal_strconv_uint64pow10 : DataW H) = Lib.tabData .u64 Lib.pow10Tab := by kernel_rfl
theorem of_laid {W : World} (h : laidMetH Tryd.prog [("math/bits.deBruijn32tab", Rows.laid_math_bits_deBruijn32tab), ("math/bits.deBruijn64tab", Rows.laid_math_bits_deBruijn64tab), ("internal/strconv.uint64pow10", Rows.laid_internal_strconv_uint64pow10)] W) : Laid W := by
  rw [MakeChecks.laidMetH_plain _ _ _ (by kernel_rfl)] at h
  obtain ⟨ps, h1, _, _⟩ := h
  obtain ⟨_, _, _, _, _, _, _, _, _, _, h1, _⟩ := h1
  obtain ⟨_, _, _, _, _, _, _, _, _, _, h1, _⟩ := h1
  obtain ⟨g1, t1, cs1, f1, p1, q1, hg1, ht1, hv1, hd1, _, _⟩ := h1
  obtain rfl := Option.some.inj (gPow.symm.trans hg1)
  obtain rfl := Option.some.inj (tPow.symm.trans ht1)
  rw [pow_data] at hd1
  exact ⟨by unfold Lib.TabIs; rw [hv1, ← Lib.cells_of_tab Tryd.underlying134 Tryd.underlying113 (by kernel_rfl) (by kernel_rfl) hd1]⟩
end Go.Proofs.YtidcchopmbodkaaDoor.Sp
end
