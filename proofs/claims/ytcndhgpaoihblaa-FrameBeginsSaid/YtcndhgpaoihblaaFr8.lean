/- Printed by wip/myprint.py of this session over the kit's print.py: contracts of Go functions (each: what a plain Lean function says, the call does). -/
import Derived.Test.YtcndhgpaoihblaaFr0
import Derived.Test.YtcndhgpaoihblaaFrX
import Derived.Test.YtcndhgpaoihblaaFr3
namespace Go.Proofs.Ytcndhgpaoihblaa.Fr
open Go.RowKit Go.Proofs.YtcndhgpaoihblaaW.PrintWords Go.Proofs.YtcndhgpaoihblaaW.PrintLast Go.Proofs.YtcndhgpaoihblaaW.PrintMore
attribute [local go_sem] max2_int min2_int max_two min_two max_three min_three max_four min_four   -- for this text's walks alone
set_option linter.unusedVariables false
set_option linter.unusedSimpArgs false

/-! ### postbaglaw10_row: function 25 -/
mutual
def postbaglaw10_row.l0 : Nat → Int → List ByteArray → List Int → ByteArray → List Int → Int → Option (ByteArray × List Int × Bool)
  | 0, _, _, _, _, _, _ => none
  | k + 1, x0, x1, x2, x9, x10, x11 => if x11 < (x1.length : Int) then (postbaglaw10_row.j1 k x0 x1 x2 x9 x10 x11 (decide (x11 < 12))) else (postbaglaw10_row.j1 k x0 x1 x2 x9 x10 x11 false)
def postbaglaw10_row.j1 : Nat → Int → List ByteArray → List Int → ByteArray → List Int → Int → Bool → Option (ByteArray × List Int × Bool)
  | 0, _, _, _, _, _, _, _ => none
  | k + 1, x0, x1, x2, x9, x10, x11, x22 => if x22 = true then (if x11 < (x2.length : Int) then (if 0 ≤ x11 then (postbaglaw10_row.j2 k x0 x1 x2 x9 x10 x11 1 ((Int.tmod (rd x2 x11) 2) == 0)) else (none)) else (postbaglaw10_row.j2 k x0 x1 x2 x9 x10 x11 1 false)) else (some (x9, x10, true))
def postbaglaw10_row.j2 : Nat → Int → List ByteArray → List Int → ByteArray → List Int → Int → Int → Bool → Option (ByteArray × List Int × Bool)
  | 0, _, _, _, _, _, _, _, _ => none
  | k + 1, x0, x1, x2, x9, x10, x11, x12, x36 => if x36 = true then (if 0 ≤ x11 then (if x11 < (x1.length : Int) then ((frame_Encode.f 2 (wrap64 (x0 + x11)) (rdOf ByteArray.empty x1 x11)).bind fun bt186 => (if bt186.2 = 0 then (if (wrap64 ((x9.size : Int) + (bt186.1.size : Int))) > 4195304 then (some (x9, x10, false)) else (if x9.size + bt186.1.size ≤ 9223372036854775807 then (if x10.length < 17592186044416 then (postbaglaw10_row.l0 k x0 x1 x2 (x9 ++ bt186.1) (x10 ++ [((x9 ++ bt186.1).size : Int)]) (wrap64 (x11 + 1))) else (none)) else (none))) else (some (x9, x10, false)))) else (none)) else (none)) else (if 0 ≤ x11 then (if x11 < (x1.length : Int) then ((frame_Encode.f x12 (wrap64 (x0 + x11)) (rdOf ByteArray.empty x1 x11)).bind fun bt192 => (if bt192.2 = 0 then (if (wrap64 ((x9.size : Int) + (bt192.1.size : Int))) > 4195304 then (some (x9, x10, false)) else (if x9.size + bt192.1.size ≤ 9223372036854775807 then (if x10.length < 17592186044416 then (postbaglaw10_row.l0 k x0 x1 x2 (x9 ++ bt192.1) (x10 ++ [((x9 ++ bt192.1).size : Int)]) (wrap64 (x11 + 1))) else (none)) else (none))) else (some (x9, x10, false)))) else (none)) else (none))
end
def postbaglaw10_row.f (k : Nat) (a0 : Int) (l1 : List ByteArray) (l2 : List Int) : Option (ByteArray × List Int × Bool) := postbaglaw10_row.l0 k a0 l1 l2 (⟨#[]⟩ : ByteArray) ([] : List Int) 0
theorem postbaglaw10_row.mono_l : ∀ k, (∀ y0 y1 y2 y3 y4 y5, LeO (postbaglaw10_row.l0 k y0 y1 y2 y3 y4 y5) (postbaglaw10_row.l0 (k + 1) y0 y1 y2 y3 y4 y5)) ∧ (∀ y0 y1 y2 y3 y4 y5 y6, LeO (postbaglaw10_row.j1 k y0 y1 y2 y3 y4 y5 y6) (postbaglaw10_row.j1 (k + 1) y0 y1 y2 y3 y4 y5 y6)) ∧ (∀ y0 y1 y2 y3 y4 y5 y6 y7, LeO (postbaglaw10_row.j2 k y0 y1 y2 y3 y4 y5 y6 y7) (postbaglaw10_row.j2 (k + 1) y0 y1 y2 y3 y4 y5 y6 y7))
  | 0 => ⟨fun _ _ _ _ _ _ r h => by simp [postbaglaw10_row.l0] at h, fun _ _ _ _ _ _ _ r h => by simp [postbaglaw10_row.j1] at h, fun _ _ _ _ _ _ _ _ r h => by simp [postbaglaw10_row.j2] at h⟩
  | k + 1 => by
    obtain ⟨ih0, ih1, ih2⟩ := postbaglaw10_row.mono_l k
    refine ⟨?_, ?_, ?_⟩
    · intro y0 y1 y2 y3 y4 y5
      unfold postbaglaw10_row.l0
      repeat' first
      | (with_reducible exact ih0 _ _ _ _ _ _)
      | (with_reducible exact ih1 _ _ _ _ _ _ _)
      | (with_reducible exact ih2 _ _ _ _ _ _ _ _)
      | (with_reducible exact LeO.refl _)
      | (with_reducible exact LeO.none _)
      | (with_reducible refine LeO.ite ?_ ?_)
      | (with_reducible refine LeO.bind ?_ (fun _ => ?_))
      | exact ih0 _ _ _ _ _ _
      | exact ih1 _ _ _ _ _ _ _
      | exact ih2 _ _ _ _ _ _ _ _
      | exact LeO.none _
      | refine LeO.ite ?_ ?_
      | refine LeO.bind ?_ (fun _ => ?_)
    · intro y0 y1 y2 y3 y4 y5 y6
      unfold postbaglaw10_row.j1
      repeat' first
      | (with_reducible exact ih0 _ _ _ _ _ _)
      | (with_reducible exact ih1 _ _ _ _ _ _ _)
      | (with_reducible exact ih2 _ _ _ _ _ _ _ _)
      | (with_reducible exact LeO.refl _)
      | (with_reducible exact LeO.none _)
      | (with_reducible refine LeO.ite ?_ ?_)
      | (with_reducible refine LeO.bind ?_ (fun _ => ?_))
      | exact ih0 _ _ _ _ _ _
      | exact ih1 _ _ _ _ _ _ _
      | exact ih2 _ _ _ _ _ _ _ _
      | exact LeO.none _
      | refine LeO.ite ?_ ?_
      | refine LeO.bind ?_ (fun _ => ?_)
    · intro y0 y1 y2 y3 y4 y5 y6 y7
      unfold postbaglaw10_row.j2
      repeat' first
      | (with_reducible exact ih0 _ _ _ _ _ _)
      | (with_reducible exact ih1 _ _ _ _ _ _ _)
      | (with_reducible exact ih2 _ _ _ _ _ _ _ _)
      | (with_reducible exact LeO.refl _)
      | (with_reducible exact LeO.none _)
      | (with_reducible refine LeO.ite ?_ ?_)
      | (with_reducible refine LeO.bind ?_ (fun _ => ?_))
      | exact ih0 _ _ _ _ _ _
      | exact ih1 _ _ _ _ _ _ _
      | exact ih2 _ _ _ _ _ _ _ _
      | exact LeO.none _
      | refine LeO.ite ?_ ?_
      | refine LeO.bind ?_ (fun _ => ?_)
theorem postbaglaw10_row.mono : ∀ a0 a1 a2 k, LeO (postbaglaw10_row.f k a0 a1 a2) (postbaglaw10_row.f (k + 1) a0 a1 a2) := by
  intro a0 a1 a2 k
  obtain ⟨ih0, ih1, ih2⟩ := postbaglaw10_row.mono_l k
  unfold postbaglaw10_row.f
  repeat' first
      | (with_reducible exact ih0 _ _ _ _ _ _)
      | (with_reducible exact ih1 _ _ _ _ _ _ _)
      | (with_reducible exact ih2 _ _ _ _ _ _ _ _)
      | (with_reducible exact LeO.refl _)
      | (with_reducible exact LeO.none _)
      | (with_reducible refine LeO.ite ?_ ?_)
      | (with_reducible refine LeO.bind ?_ (fun _ => ?_))
      | exact ih0 _ _ _ _ _ _
      | exact ih1 _ _ _ _ _ _ _
      | exact ih2 _ _ _ _ _ _ _ _
      | exact LeO.none _
      | refine LeO.ite ?_ ?_
      | refine LeO.bind ?_ (fun _ => ?_)
set_option maxHeartbeats 8000000 in
set_option maxRecDepth 100000 in
theorem postbaglaw10_row.calls (k : Nat) (a0 : Int) (A1 : Option Addr) (c1 : Nat) (l1 : List ByteArray) (A2 : Option Addr) (c2 : Nat) (l2 : List Int) (r1 : ByteArray) (r2 : List Int) (r3 : Bool) (w : World) (hr1 : Kd.C Kd.string w A1 l1.length l1) (hc1 : l1.length ≤ c1) (hr2 : Kd.C (Kd.int .i64) w A2 l2.length l2) (hc2 : l2.length ≤ c2) (h : postbaglaw10_row.f k a0 l1 l2 = some (r1, r2, r3)) :
    Calls Try.prog 25 #[.int .i64 a0, .slice A1 l1.length c1, .slice A2 l2.length c2] w fun e w' => ∃ v1_ : Value, e = .returned (.tuple #[.string r1, v1_, .bool r3]) ∧ Kd.R (Kd.int .i64) 3 w' w.heap.size (fun _ => True) v1_ r2 ∧ Below w.heap.size w w' := by
  have HR1 := Aside0.mk hr1
  have HC1 := Aside0.mk hc1
  clear hr1 hc1
  have HR2 := Aside0.mk hr2
  have HC2 := Aside0.mk hc2
  clear hr2 hc2
  have HB := Aside0.mk (Below.refl w.heap.size w)
  have H : (postbaglaw10_row.l0 k a0 l1 l2 (⟨#[]⟩ : ByteArray) ([] : List Int) 0) = some (r1, r2, r3) := h
  clear h
  have H' := Aside0.mk H
  clear H
  go_enter Try.func25, Try.ntmps25
  go_wp2
  go_loopg [9, 10, 11] k (fun kq v9 v10 v11 w' => ∃ (x9_1 : ByteArray) (x10_1 : List Int) (x11_1 : Int), v9 = .string x9_1 ∧ v11 = .int .i64 x11_1 ∧ Aside0 (postbaglaw10_row.l0 kq a0 l1 l2 x9_1 x10_1 x11_1 = some (r1, r2, r3)) ∧ Aside0 (kq ≤ k) ∧ Aside0 (Kd.R (Kd.int .i64) 3 w' w.heap.size (fun _ => True) v10 x10_1) ∧ Aside0 (Below w.heap.size w w'))
  case atStart => exact ⟨((⟨#[]⟩ : ByteArray)), (([] : List Int)), (0), (by first | rfl | (simp; done) | (simp [*]; done)), (by first | rfl | (simp; done) | (simp [*]; done)), H', ⟨Nat.le_refl _⟩, ⟨by first | exact Kd.R_nil _ _ _ _ _ | exact Kd.N_nil _ _ _ _ _ | exact Kd.V_nil _ _ _ _ _ | exact Kd.Q_nil _ _ _ _ _ | exact Kd.S_nil _ _ _ _ _⟩, ⟨by repeat (first | (with_reducible first | exact HB.out | apply below_alloc | apply pw_below_drewN | apply below_drew1) | exact HB.out)⟩⟩
  case round =>
    clear H'
    try clear c1
    try clear c2
    try clear p2
    obtain ⟨x9_1, x10_1, x11_1, rfl, rfl, HA, HK1, HO_10, HB⟩ := hrel
    cases gk with
    | zero => exact absurd HA.out (by simp [postbaglaw10_row.l0])
    | succ k1 =>
      have H := HA.out
      clear HA
      simp only [postbaglaw10_row.l0] at H
      have HC4 := Aside0.mk H
      clear H
      go_upto_region 4 with (fail)
      go_cut [22] (fun v22 wc => ∃ (kq : Nat) (x22_3 : Bool), v22 = .bool x22_3 ∧ Aside0 (postbaglaw10_row.j1 kq a0 l1 l2 x9_1 x10_1 x11_1 x22_3 = some (r1, r2, r3)) ∧ Aside0 (kq ≤ k1) ∧ Aside0 (Kd.R (Kd.int .i64) 3 wc w.heap.size (fun _ => True) u10 x10_1) ∧ Aside0 (Below w.heap.size w wc))
      case first =>
        have H := HC4.out
        clear HC4
        by_cases c5 : x11_1 < (l1.length : Int)
        · rw [if_pos c5] at H
          have c5b0 : decide (x11_1 < (l1.length : Int)) = true := decide_eq_true c5
          clear c5
          (first | rw [c5b0] | (simp only [i64_w, i32_w]; rw [c5b0]) | skip)
          have H' := Aside0.mk H
          clear H
          go_wp2
          go_meet
          case rel => exact ⟨_, (decide (x11_1 < 12)), (by first | rfl | (simp; done) | (simp [*]; done)), H', ⟨by have := HK1.out; first | omega | exact Nat.le_refl _⟩, ⟨by (with_reducible repeat (first | apply Kd.R_alloc | apply Kd.R_drewN | apply Kd.R_drew)); exact HO_10.out⟩, ⟨by repeat (first | (with_reducible first | exact HB.out | apply below_alloc | apply pw_below_drewN | apply below_drew1) | exact HB.out)⟩⟩
        · rw [if_neg c5] at H
          have c5b0 : decide (x11_1 < (l1.length : Int)) = false := decide_eq_false c5
          clear c5
          (first | rw [c5b0] | (simp only [i64_w, i32_w]; rw [c5b0]) | skip)
          have H' := Aside0.mk H
          clear H
          go_wp2
          go_meet
          case rel => exact ⟨_, (false), (by first | rfl | (simp; done) | (simp [*]; done)), H', ⟨by have := HK1.out; first | omega | exact Nat.le_refl _⟩, ⟨by (with_reducible repeat (first | apply Kd.R_alloc | apply Kd.R_drewN | apply Kd.R_drew)); exact HO_10.out⟩, ⟨by repeat (first | (with_reducible first | exact HB.out | apply below_alloc | apply pw_below_drewN | apply below_drew1) | exact HB.out)⟩⟩
      case rest =>
        clear HC4
        try clear c1
        try clear c2
        try clear p2
        try clear c5
        try clear c5b0
        try clear p2
        obtain ⟨kq, x22_3, rfl, HA, HJ3, HO_10, HB⟩ := hcut
        cases kq with
        | zero => exact absurd HA.out (by simp [postbaglaw10_row.j1])
        | succ kj3 =>
          have H := HA.out
          clear HA
          simp only [postbaglaw10_row.j1] at H
          by_cases c6 : x22_3 = true
          · subst c6
            have H1 : (if x11_1 < (l2.length : Int) then (if 0 ≤ x11_1 then (postbaglaw10_row.j2 kj3 a0 l1 l2 x9_1 x10_1 x11_1 1 ((Int.tmod (rd l2 x11_1) 2) == 0)) else (none)) else (postbaglaw10_row.j2 kj3 a0 l1 l2 x9_1 x10_1 x11_1 1 false)) = some (r1, r2, r3) := by rw [if_pos rfl] at H; exact H
            clear H
            have H := H1
            clear H1
            have HC7 := Aside0.mk H
            clear H
            go_upto_region 7 with (fail)
            go_cut [36] (fun v36 wc => ∃ (kq : Nat) (x36_6 : Bool), v36 = .bool x36_6 ∧ Aside0 (postbaglaw10_row.j2 kq a0 l1 l2 x9_1 x10_1 x11_1 1 x36_6 = some (r1, r2, r3)) ∧ Aside0 (kq ≤ kj3) ∧ Aside0 (Kd.R (Kd.int .i64) 3 wc w.heap.size (fun _ => True) u10 x10_1) ∧ Aside0 (Below w.heap.size w wc))
            case first =>
              have H := HC7.out
              clear HC7
              by_cases c8 : x11_1 < (l2.length : Int)
              · rw [if_pos c8] at H
                have c8b0 : decide (x11_1 < (l2.length : Int)) = true := decide_eq_true c8
                clear c8
                (first | rw [c8b0] | (simp only [i64_w, i32_w]; rw [c8b0]) | skip)
                by_cases c9 : 0 ≤ x11_1
                · rw [if_pos c9] at H
                  have c9b0 : decide (0 ≤ x11_1) = true := decide_eq_true c9
                  clear c9
                  have H' := Aside0.mk H
                  clear H
                  have p184 : 0 ≤ (x11_1 : Int) := of_decide_eq_true (by first | (with_reducible assumption) | assumption)
                  have q184 : x11_1 < (l2.length : Int) := of_decide_eq_true (by first | (with_reducible assumption) | assumption)
                  obtain ⟨ad184, e184, hx184_0⟩ := Kd.at_int HR2.out x11_1 p184 q184
                  cases e184
                  replace hx184_0 := (HB.out.cell (World.block_lt_of_cell? w _ hx184_0)).trans hx184_0
                  replace p184 := eq_true p184
                  replace q184 := eq_true q184
                  go_wp2
                  go_meet
                  case rel => exact ⟨_, (((Int.tmod (rd l2 x11_1) 2) == 0)), (by first | rfl | (simp; done) | (simp [*]; done)), H', ⟨by have := HK1.out; have := HJ3.out; first | omega | exact Nat.le_refl _⟩, ⟨by (with_reducible repeat (first | apply Kd.R_alloc | apply Kd.R_drewN | apply Kd.R_drew)); exact HO_10.out⟩, ⟨by repeat (first | (with_reducible first | exact HB.out | apply below_alloc | apply pw_below_drewN | apply below_drew1) | exact HB.out)⟩⟩
                · rw [if_neg c9] at H
                  exact absurd H (by simp)
              · rw [if_neg c8] at H
                have c8b0 : decide (x11_1 < (l2.length : Int)) = false := decide_eq_false c8
                clear c8
                (first | rw [c8b0] | (simp only [i64_w, i32_w]; rw [c8b0]) | skip)
                have H' := Aside0.mk H
                clear H
                go_wp2
                go_meet
                case rel => exact ⟨_, (false), (by first | rfl | (simp; done) | (simp [*]; done)), H', ⟨by have := HK1.out; have := HJ3.out; first | omega | exact Nat.le_refl _⟩, ⟨by (with_reducible repeat (first | apply Kd.R_alloc | apply Kd.R_drewN | apply Kd.R_drew)); exact HO_10.out⟩, ⟨by repeat (first | (with_reducible first | exact HB.out | apply below_alloc | apply pw_below_drewN | apply below_drew1) | exact HB.out)⟩⟩
            case rest =>
              clear HC7
              try clear c1
              try clear p1
              try clear q1
              try clear hx1
              try clear c2
              try clear p2
              try clear c5
              try clear c5b0
              try clear c6
              try clear c8
              try clear c8b0
              try clear c9
              try clear c9b0
              try clear hx184_0
              try clear p184
              try clear p2
              try clear q184
              obtain ⟨kq, x36_6, rfl, HA, HJ6, HO_10, HB⟩ := hcut
              cases kq with
              | zero => exact absurd HA.out (by simp [postbaglaw10_row.j2])
              | succ kj6 =>
                have H := HA.out
                clear HA
                simp only [postbaglaw10_row.j2] at H
                by_cases c10 : x36_6 = true
                · subst c10
                  have H1 : (if 0 ≤ x11_1 then (if x11_1 < (l1.length : Int) then ((frame_Encode.f 2 (wrap64 (a0 + x11_1)) (rdOf ByteArray.empty l1 x11_1)).bind fun bt186 => (if bt186.2 = 0 then (if (wrap64 ((x9_1.size : Int) + (bt186.1.size : Int))) > 4195304 then (some (x9_1, x10_1, false)) else (if x9_1.size + bt186.1.size ≤ 9223372036854775807 then (if x10_1.length < 17592186044416 then (postbaglaw10_row.l0 kj6 a0 l1 l2 (x9_1 ++ bt186.1) (x10_1 ++ [((x9_1 ++ bt186.1).size : Int)]) (wrap64 (x11_1 + 1))) else (none)) else (none))) else (some (x9_1, x10_1, false)))) else (none)) else (none)) = some (r1, r2, r3) := by rw [if_pos rfl] at H; exact H
                  clear H
                  have H := H1
                  clear H1
                  by_cases c11 : 0 ≤ x11_1
                  · rw [if_pos c11] at H
                    have c11b0 : decide (0 ≤ x11_1) = true := decide_eq_true c11
                    clear c11
                    by_cases c12 : x11_1 < (l1.length : Int)
                    · rw [if_pos c12] at H
                      have c12b0 : decide (x11_1 < (l1.length : Int)) = true := decide_eq_true c12
                      clear c12
                      replace H := Option.bind_eq_some_iff.mp H
                      obtain ⟨⟨t186, t187⟩, A130, H⟩ := H
                      replace H : (if t187 = 0 then (if (wrap64 ((x9_1.size : Int) + (t186.size : Int))) > 4195304 then (some (x9_1, x10_1, false)) else (if x9_1.size + t186.size ≤ 9223372036854775807 then (if x10_1.length < 17592186044416 then (postbaglaw10_row.l0 kj6 a0 l1 l2 (x9_1 ++ t186) (x10_1 ++ [((x9_1 ++ t186).size : Int)]) (wrap64 (x11_1 + 1))) else (none)) else (none))) else (some (x9_1, x10_1, false))) = some (r1, r2, r3) := H
                      have A13 := Aside0.mk A130
                      clear A130
                      by_cases c14 : t187 = 0
                      · rw [if_pos c14] at H
                        have c14b0 : (t187 == 0) = true := beq_iff_eq.mpr c14
                        have c14b1 : (t187 != 0) = false := bne_eq_false_iff_eq.mpr c14
                        clear c14
                        by_cases c15 : (wrap64 ((x9_1.size : Int) + (t186.size : Int))) > 4195304
                        · rw [if_pos c15] at H
                          have c15b0 : decide (4195304 < (wrap64 ((x9_1.size : Int) + (t186.size : Int)))) = true := decide_eq_true c15
                          clear c15
                          simp only [Option.some.injEq, Prod.mk.injEq] at H
                          obtain ⟨rfl, rfl, rfl⟩ := H
                          have p185 : 0 ≤ (x11_1 : Int) := of_decide_eq_true (by first | (with_reducible assumption) | assumption)
                          have q185 : x11_1 < (l1.length : Int) := of_decide_eq_true (by first | (with_reducible assumption) | assumption)
                          obtain ⟨ad185, e185, hx185_0⟩ := Kd.at_string HR1.out x11_1 p185 q185
                          cases e185
                          replace hx185_0 := (HB.out.cell (World.block_lt_of_cell? w _ hx185_0)).trans hx185_0
                          replace p185 := eq_true p185
                          replace q185 := eq_true q185
                          go_wp2_with (first | ((with_reducible refine gate_callee (f := 17) rfl ?_); refine goesL_ (some 46) rfl rfl Try.func17 (by kernel_rfl) rfl #[.int .i64 2, .int .i64 (wrap64 (a0 + x11_1)), .string (rdOf ByteArray.empty l1 x11_1)] rfl (by (try simp only [List.map_toArray, List.map_cons, List.map_nil]); first | done | rfl | (simp only [List.length_drop, List.length_take]; rfl)) ?_; (with_reducible refine (frame_Encode.calls 2 (wrap64 (a0 + x11_1)) (rdOf ByteArray.empty l1 x11_1) t186 t187 _ A13.out).mono ?_); rintro e w16 ⟨rfl, hb⟩; refine ⟨_, rfl, ?_⟩; have n0_ := Aside0.mk (Kd.R_below (by (with_reducible repeat (first | apply Kd.R_alloc | apply Kd.R_drewN | apply Kd.R_drew)); exact HO_10.out) hb); have n1_ := Aside0.mk (below_step (by repeat (first | (with_reducible first | exact HB.out | apply below_alloc | apply pw_below_drewN | apply below_drew1) | exact HB.out)) hb); clear HO_10; clear HB; have HO_10 := n0_; have HB := n1_; clear n0_ n1_; (try clear hb); (try clear hb2); (try clear hk); (try clear hi)))
                          go_ret3
                          exact ⟨_, by first | rfl | (simp [errW_none, errW_some] <;> rfl) | (simp [*, errW_none, errW_some] <;> rfl), by (with_reducible repeat (first | apply Kd.R_alloc | apply Kd.R_drewN | apply Kd.R_drew)); exact HO_10.out, by repeat (first | (with_reducible first | exact HB.out | apply below_alloc | apply pw_below_drewN | apply below_drew1) | exact HB.out)⟩
                        · rw [if_neg c15] at H
                          have c15b0 : decide (4195304 < (wrap64 ((x9_1.size : Int) + (t186.size : Int)))) = false := decide_eq_false c15
                          clear c15
                          by_cases c17 : x9_1.size + t186.size ≤ 9223372036854775807
                          · rw [if_pos c17] at H
                            have c17b0 := eq_true c17
                            have c17b1 : decide (x9_1.size + t186.size ≤ 9223372036854775807) = true := decide_eq_true c17
                            try have c17b2 : (9223372036854775807 < x9_1.size + t186.size) = False := eq_false (Nat.not_lt.2 c17)
                            try have c15b0u : decide (4195304 < ((x9_1.size : Int) + (t186.size : Int))) = true := decide_eq_true (by have h_ := of_decide_eq_true c15b0; have h2_ := c17; unfold wrap64 at h_; omega)
                            try have c15b0u : decide (4195304 < ((x9_1.size : Int) + (t186.size : Int))) = false := decide_eq_false (by have h_ := of_decide_eq_false c15b0; have h2_ := c17; unfold wrap64 at h_; omega)
                            by_cases c18 : x10_1.length < 17592186044416
                            · rw [if_pos c18] at H
                              have LMc18 := Aside0.mk c18
                              clear c18
                              obtain ⟨y188, hy188⟩ : ∃ y_ : List Int, y_ = (x10_1 ++ [((x9_1 ++ t186).size : Int)]) := ⟨_, rfl⟩
                              replace H : (postbaglaw10_row.l0 kj6 a0 l1 l2 (x9_1 ++ t186) y188 (wrap64 (x11_1 + 1))) = some (r1, r2, r3) := by first | (rw [hy188]; with_reducible exact H) | (have H2_ := (Option.bind_some _ _).symm.trans H; rw [hy188]; with_reducible exact H2_) | (have H2_ := (Option.bind_some _ _).symm.trans H; with_reducible exact H2_) | with_reducible exact H | (rw [hy188]; exact H) | exact H
                              have Ny188 := Aside0.mk hy188
                              clear hy188
                              have H' := Aside0.mk H
                              clear H
                              have p185 : 0 ≤ (x11_1 : Int) := of_decide_eq_true (by first | (with_reducible assumption) | assumption)
                              have q185 : x11_1 < (l1.length : Int) := of_decide_eq_true (by first | (with_reducible assumption) | assumption)
                              obtain ⟨ad185, e185, hx185_0⟩ := Kd.at_string HR1.out x11_1 p185 q185
                              cases e185
                              replace hx185_0 := (HB.out.cell (World.block_lt_of_cell? w _ hx185_0)).trans hx185_0
                              replace p185 := eq_true p185
                              replace q185 := eq_true q185
                              go_wp2_with (first | ((with_reducible refine gate_callee (f := 17) rfl ?_); refine goesL_ (some 46) rfl rfl Try.func17 (by kernel_rfl) rfl #[.int .i64 2, .int .i64 (wrap64 (a0 + x11_1)), .string (rdOf ByteArray.empty l1 x11_1)] rfl (by (try simp only [List.map_toArray, List.map_cons, List.map_nil]); first | done | rfl | (simp only [List.length_drop, List.length_take]; rfl)) ?_; (with_reducible refine (frame_Encode.calls 2 (wrap64 (a0 + x11_1)) (rdOf ByteArray.empty l1 x11_1) t186 t187 _ A13.out).mono ?_); rintro e w19 ⟨rfl, hb⟩; refine ⟨_, rfl, ?_⟩; have n0_ := Aside0.mk (Kd.R_below (by (with_reducible repeat (first | apply Kd.R_alloc | apply Kd.R_drewN | apply Kd.R_drew)); exact HO_10.out) hb); have n1_ := Aside0.mk (below_step (by repeat (first | (with_reducible first | exact HB.out | apply below_alloc | apply pw_below_drewN | apply below_drew1) | exact HB.out)) hb); clear HO_10; clear HB; have HO_10 := n0_; have HB := n1_; clear n0_ n1_; (try clear hb); (try clear hb2); (try clear hk); (try clear hi)) | ((with_reducible refine gate_builtin (b := .append) (xs := #[.tmp 64, .tmp 67]) rfl ?_); (try (refine gate_guard (by rfl) ?_; dsimp only)); at_builtin; refine Kd.R_append (Kd.int .i64) (w0 := w) w.heap.size rfl (.tmp 64) (.tmp 67) 44 3 (.int .i64 0) 8 rfl Try.underlying44 info3 rfl (by decide) (by omega) u10 x10_1 ((x9_1 ++ t186).size : Int) [.int .i64 ((x9_1.size : Int) + (t186.size : Int))] (fun _ => True) (fun _ => False) rfl rfl ?aP (fun _ hk => hk.elim) ?aF ?aO ?aB ?aS ?aL ?_; (case aP => first | exact rfl | (show [_] = [_]; rw [ByteArray.size_append]; rfl)); (case aB => exact (by repeat (first | (with_reducible first | exact HB.out | apply below_alloc | apply pw_below_drewN | apply below_drew1) | exact HB.out))); (case aF => exact (fun _ _ => trivial)); (case aO => exact (by (with_reducible repeat (first | apply Kd.R_alloc | apply Kd.R_drewN | apply Kd.R_drew)); exact HO_10.out)); (case aS => exact (below_size (by repeat (first | (with_reducible first | exact HB.out | apply below_alloc | apply pw_below_drewN | apply below_drew1) | exact HB.out)))); (case aL => have := LMc18.out; omega); intro v189 w20 ho hb hg hat; rw [← Ny188.out] at ho; have n0_ := Aside0.mk (hb); have n1_ := Aside0.mk (ho); clear HB; clear HO_10; have HB := n0_; have HO190 := n1_; clear n0_ n1_; clear ho hb hg hat))
                              go_roundg kj6
                              case measure => have := HK1.out; have := HJ3.out; have := HJ6.out; omega
                              case rel => exact ⟨(x9_1 ++ t186), (y188), (wrap64 (x11_1 + 1)), (by first | rfl | (simp; done) | (simp [*]; done)), (by first | rfl | (simp; done) | (simp [*]; done)), H', ⟨by have := HK1.out; have := HJ3.out; have := HJ6.out; omega⟩, ⟨by (with_reducible repeat (first | apply Kd.R_alloc | apply Kd.R_drewN | apply Kd.R_drew)); exact HO190.out⟩, ⟨by repeat (first | (with_reducible first | exact HB.out | apply below_alloc | apply pw_below_drewN | apply below_drew1) | exact HB.out)⟩⟩
                            · rw [if_neg c18] at H
                              exact absurd H (by simp)
                          · rw [if_neg c17] at H
                            exact absurd H (by simp)
                      · rw [if_neg c14] at H
                        have c14b0 : (t187 == 0) = false := beq_eq_false_iff_ne.mpr c14
                        have c14b1 : (t187 != 0) = true := bne_iff_ne.mpr c14
                        simp only [Option.some.injEq, Prod.mk.injEq] at H
                        obtain ⟨rfl, rfl, rfl⟩ := H
                        have p185 : 0 ≤ (x11_1 : Int) := of_decide_eq_true (by first | (with_reducible assumption) | assumption)
                        have q185 : x11_1 < (l1.length : Int) := of_decide_eq_true (by first | (with_reducible assumption) | assumption)
                        obtain ⟨ad185, e185, hx185_0⟩ := Kd.at_string HR1.out x11_1 p185 q185
                        cases e185
                        replace hx185_0 := (HB.out.cell (World.block_lt_of_cell? w _ hx185_0)).trans hx185_0
                        replace p185 := eq_true p185
                        replace q185 := eq_true q185
                        go_wp2_with (first | ((with_reducible refine gate_callee (f := 17) rfl ?_); refine goesL_ (some 46) rfl rfl Try.func17 (by kernel_rfl) rfl #[.int .i64 2, .int .i64 (wrap64 (a0 + x11_1)), .string (rdOf ByteArray.empty l1 x11_1)] rfl (by (try simp only [List.map_toArray, List.map_cons, List.map_nil]); first | done | rfl | (simp only [List.length_drop, List.length_take]; rfl)) ?_; (with_reducible refine (frame_Encode.calls 2 (wrap64 (a0 + x11_1)) (rdOf ByteArray.empty l1 x11_1) t186 t187 _ A13.out).mono ?_); rintro e w21 ⟨rfl, hb⟩; refine ⟨_, rfl, ?_⟩; have n0_ := Aside0.mk (Kd.R_below (by (with_reducible repeat (first | apply Kd.R_alloc | apply Kd.R_drewN | apply Kd.R_drew)); exact HO_10.out) hb); have n1_ := Aside0.mk (below_step (by repeat (first | (with_reducible first | exact HB.out | apply below_alloc | apply pw_below_drewN | apply below_drew1) | exact HB.out)) hb); clear HO_10; clear HB; have HO_10 := n0_; have HB := n1_; clear n0_ n1_; (try clear hb); (try clear hb2); (try clear hk); (try clear hi)))
                        go_ret3
                        exact ⟨_, by first | rfl | (simp [errW_none, errW_some] <;> rfl) | (simp [*, errW_none, errW_some] <;> rfl), by (with_reducible repeat (first | apply Kd.R_alloc | apply Kd.R_drewN | apply Kd.R_drew)); exact HO_10.out, by repeat (first | (with_reducible first | exact HB.out | apply below_alloc | apply pw_below_drewN | apply below_drew1) | exact HB.out)⟩
                    · rw [if_neg c12] at H
                      exact absurd H (by simp)
                  · rw [if_neg c11] at H
                    exact absurd H (by simp)
                · replace c10 := Bool.eq_false_iff.mpr c10
                  subst c10
                  have H1 : (if 0 ≤ x11_1 then (if x11_1 < (l1.length : Int) then ((frame_Encode.f 1 (wrap64 (a0 + x11_1)) (rdOf ByteArray.empty l1 x11_1)).bind fun bt192 => (if bt192.2 = 0 then (if (wrap64 ((x9_1.size : Int) + (bt192.1.size : Int))) > 4195304 then (some (x9_1, x10_1, false)) else (if x9_1.size + bt192.1.size ≤ 9223372036854775807 then (if x10_1.length < 17592186044416 then (postbaglaw10_row.l0 kj6 a0 l1 l2 (x9_1 ++ bt192.1) (x10_1 ++ [((x9_1 ++ bt192.1).size : Int)]) (wrap64 (x11_1 + 1))) else (none)) else (none))) else (some (x9_1, x10_1, false)))) else (none)) else (none)) = some (r1, r2, r3) := by rw [if_neg (show ¬ (false = true) by decide)] at H; exact H
                  clear H
                  have H := H1
                  clear H1
                  by_cases c22 : 0 ≤ x11_1
                  · rw [if_pos c22] at H
                    have c22b0 : decide (0 ≤ x11_1) = true := decide_eq_true c22
                    clear c22
                    by_cases c23 : x11_1 < (l1.length : Int)
                    · rw [if_pos c23] at H
                      have c23b0 : decide (x11_1 < (l1.length : Int)) = true := decide_eq_true c23
                      clear c23
                      replace H := Option.bind_eq_some_iff.mp H
                      obtain ⟨⟨t192, t193⟩, A240, H⟩ := H
                      replace H : (if t193 = 0 then (if (wrap64 ((x9_1.size : Int) + (t192.size : Int))) > 4195304 then (some (x9_1, x10_1, false)) else (if x9_1.size + t192.size ≤ 9223372036854775807 then (if x10_1.length < 17592186044416 then (postbaglaw10_row.l0 kj6 a0 l1 l2 (x9_1 ++ t192) (x10_1 ++ [((x9_1 ++ t192).size : Int)]) (wrap64 (x11_1 + 1))) else (none)) else (none))) else (some (x9_1, x10_1, false))) = some (r1, r2, r3) := H
                      have A24 := Aside0.mk A240
                      clear A240
                      by_cases c25 : t193 = 0
                      · rw [if_pos c25] at H
                        have c25b0 : (t193 == 0) = true := beq_iff_eq.mpr c25
                        have c25b1 : (t193 != 0) = false := bne_eq_false_iff_eq.mpr c25
                        clear c25
                        by_cases c26 : (wrap64 ((x9_1.size : Int) + (t192.size : Int))) > 4195304
                        · rw [if_pos c26] at H
                          have c26b0 : decide (4195304 < (wrap64 ((x9_1.size : Int) + (t192.size : Int)))) = true := decide_eq_true c26
                          clear c26
                          simp only [Option.some.injEq, Prod.mk.injEq] at H
                          obtain ⟨rfl, rfl, rfl⟩ := H
                          have p191 : 0 ≤ (x11_1 : Int) := of_decide_eq_true (by first | (with_reducible assumption) | assumption)
                          have q191 : x11_1 < (l1.length : Int) := of_decide_eq_true (by first | (with_reducible assumption) | assumption)
                          obtain ⟨ad191, e191, hx191_0⟩ := Kd.at_string HR1.out x11_1 p191 q191
                          cases e191
                          replace hx191_0 := (HB.out.cell (World.block_lt_of_cell? w _ hx191_0)).trans hx191_0
                          replace p191 := eq_true p191
                          replace q191 := eq_true q191
                          go_wp2_with (first | ((with_reducible refine gate_callee (f := 17) rfl ?_); refine goesL_ (some 46) rfl rfl Try.func17 (by kernel_rfl) rfl #[.int .i64 1, .int .i64 (wrap64 (a0 + x11_1)), .string (rdOf ByteArray.empty l1 x11_1)] rfl (by (try simp only [List.map_toArray, List.map_cons, List.map_nil]); first | done | rfl | (simp only [List.length_drop, List.length_take]; rfl)) ?_; (with_reducible refine (frame_Encode.calls 1 (wrap64 (a0 + x11_1)) (rdOf ByteArray.empty l1 x11_1) t192 t193 _ A24.out).mono ?_); rintro e w27 ⟨rfl, hb⟩; refine ⟨_, rfl, ?_⟩; have n0_ := Aside0.mk (Kd.R_below (by (with_reducible repeat (first | apply Kd.R_alloc | apply Kd.R_drewN | apply Kd.R_drew)); exact HO_10.out) hb); have n1_ := Aside0.mk (below_step (by repeat (first | (with_reducible first | exact HB.out | apply below_alloc | apply pw_below_drewN | apply below_drew1) | exact HB.out)) hb); clear HO_10; clear HB; have HO_10 := n0_; have HB := n1_; clear n0_ n1_; (try clear hb); (try clear hb2); (try clear hk); (try clear hi)))
                          go_ret3
                          exact ⟨_, by first | rfl | (simp [errW_none, errW_some] <;> rfl) | (simp [*, errW_none, errW_some] <;> rfl), by (with_reducible repeat (first | apply Kd.R_alloc | apply Kd.R_drewN | apply Kd.R_drew)); exact HO_10.out, by repeat (first | (with_reducible first | exact HB.out | apply below_alloc | apply pw_below_drewN | apply below_drew1) | exact HB.out)⟩
                        · rw [if_neg c26] at H
                          have c26b0 : decide (4195304 < (wrap64 ((x9_1.size : Int) + (t192.size : Int)))) = false := decide_eq_false c26
                          clear c26
                          by_cases c28 : x9_1.size + t192.size ≤ 9223372036854775807
                          · rw [if_pos c28] at H
                            have c28b0 := eq_true c28
                            have c28b1 : decide (x9_1.size + t192.size ≤ 9223372036854775807) = true := decide_eq_true c28
                            try have c28b2 : (9223372036854775807 < x9_1.size + t192.size) = False := eq_false (Nat.not_lt.2 c28)
                            try have c26b0u : decide (4195304 < ((x9_1.size : Int) + (t192.size : Int))) = true := decide_eq_true (by have h_ := of_decide_eq_true c26b0; have h2_ := c28; unfold wrap64 at h_; omega)
                            try have c26b0u : decide (4195304 < ((x9_1.size : Int) + (t192.size : Int))) = false := decide_eq_false (by have h_ := of_decide_eq_false c26b0; have h2_ := c28; unfold wrap64 at h_; omega)
                            by_cases c29 : x10_1.length < 17592186044416
                            · rw [if_pos c29] at H
                              have LMc29 := Aside0.mk c29
                              clear c29
                              obtain ⟨y194, hy194⟩ : ∃ y_ : List Int, y_ = (x10_1 ++ [((x9_1 ++ t192).size : Int)]) := ⟨_, rfl⟩
                              replace H : (postbaglaw10_row.l0 kj6 a0 l1 l2 (x9_1 ++ t192) y194 (wrap64 (x11_1 + 1))) = some (r1, r2, r3) := by first | (rw [hy194]; with_reducible exact H) | (have H2_ := (Option.bind_some _ _).symm.trans H; rw [hy194]; with_reducible exact H2_) | (have H2_ := (Option.bind_some _ _).symm.trans H; with_reducible exact H2_) | with_reducible exact H | (rw [hy194]; exact H) | exact H
                              have Ny194 := Aside0.mk hy194
                              clear hy194
                              have H' := Aside0.mk H
                              clear H
                              have p191 : 0 ≤ (x11_1 : Int) := of_decide_eq_true (by first | (with_reducible assumption) | assumption)
                              have q191 : x11_1 < (l1.length : Int) := of_decide_eq_true (by first | (with_reducible assumption) | assumption)
                              obtain ⟨ad191, e191, hx191_0⟩ := Kd.at_string HR1.out x11_1 p191 q191
                              cases e191
                              replace hx191_0 := (HB.out.cell (World.block_lt_of_cell? w _ hx191_0)).trans hx191_0
                              replace p191 := eq_true p191
                              replace q191 := eq_true q191
                              go_wp2_with (first | ((with_reducible refine gate_callee (f := 17) rfl ?_); refine goesL_ (some 46) rfl rfl Try.func17 (by kernel_rfl) rfl #[.int .i64 1, .int .i64 (wrap64 (a0 + x11_1)), .string (rdOf ByteArray.empty l1 x11_1)] rfl (by (try simp only [List.map_toArray, List.map_cons, List.map_nil]); first | done | rfl | (simp only [List.length_drop, List.length_take]; rfl)) ?_; (with_reducible refine (frame_Encode.calls 1 (wrap64 (a0 + x11_1)) (rdOf ByteArray.empty l1 x11_1) t192 t193 _ A24.out).mono ?_); rintro e w30 ⟨rfl, hb⟩; refine ⟨_, rfl, ?_⟩; have n0_ := Aside0.mk (Kd.R_below (by (with_reducible repeat (first | apply Kd.R_alloc | apply Kd.R_drewN | apply Kd.R_drew)); exact HO_10.out) hb); have n1_ := Aside0.mk (below_step (by repeat (first | (with_reducible first | exact HB.out | apply below_alloc | apply pw_below_drewN | apply below_drew1) | exact HB.out)) hb); clear HO_10; clear HB; have HO_10 := n0_; have HB := n1_; clear n0_ n1_; (try clear hb); (try clear hb2); (try clear hk); (try clear hi)) | ((with_reducible refine gate_builtin (b := .append) (xs := #[.tmp 64, .tmp 67]) rfl ?_); (try (refine gate_guard (by rfl) ?_; dsimp only)); at_builtin; refine Kd.R_append (Kd.int .i64) (w0 := w) w.heap.size rfl (.tmp 64) (.tmp 67) 44 3 (.int .i64 0) 8 rfl Try.underlying44 info3 rfl (by decide) (by omega) u10 x10_1 ((x9_1 ++ t192).size : Int) [.int .i64 ((x9_1.size : Int) + (t192.size : Int))] (fun _ => True) (fun _ => False) rfl rfl ?aP (fun _ hk => hk.elim) ?aF ?aO ?aB ?aS ?aL ?_; (case aP => first | exact rfl | (show [_] = [_]; rw [ByteArray.size_append]; rfl)); (case aB => exact (by repeat (first | (with_reducible first | exact HB.out | apply below_alloc | apply pw_below_drewN | apply below_drew1) | exact HB.out))); (case aF => exact (fun _ _ => trivial)); (case aO => exact (by (with_reducible repeat (first | apply Kd.R_alloc | apply Kd.R_drewN | apply Kd.R_drew)); exact HO_10.out)); (case aS => exact (below_size (by repeat (first | (with_reducible first | exact HB.out | apply below_alloc | apply pw_below_drewN | apply below_drew1) | exact HB.out)))); (case aL => have := LMc29.out; omega); intro v195 w31 ho hb hg hat; rw [← Ny194.out] at ho; have n0_ := Aside0.mk (hb); have n1_ := Aside0.mk (ho); clear HB; clear HO_10; have HB := n0_; have HO196 := n1_; clear n0_ n1_; clear ho hb hg hat))
                              go_roundg kj6
                              case measure => have := HK1.out; have := HJ3.out; have := HJ6.out; omega
                              case rel => exact ⟨(x9_1 ++ t192), (y194), (wrap64 (x11_1 + 1)), (by first | rfl | (simp; done) | (simp [*]; done)), (by first | rfl | (simp; done) | (simp [*]; done)), H', ⟨by have := HK1.out; have := HJ3.out; have := HJ6.out; omega⟩, ⟨by (with_reducible repeat (first | apply Kd.R_alloc | apply Kd.R_drewN | apply Kd.R_drew)); exact HO196.out⟩, ⟨by repeat (first | (with_reducible first | exact HB.out | apply below_alloc | apply pw_below_drewN | apply below_drew1) | exact HB.out)⟩⟩
                            · rw [if_neg c29] at H
                              exact absurd H (by simp)
                          · rw [if_neg c28] at H
                            exact absurd H (by simp)
                      · rw [if_neg c25] at H
                        have c25b0 : (t193 == 0) = false := beq_eq_false_iff_ne.mpr c25
                        have c25b1 : (t193 != 0) = true := bne_iff_ne.mpr c25
                        simp only [Option.some.injEq, Prod.mk.injEq] at H
                        obtain ⟨rfl, rfl, rfl⟩ := H
                        have p191 : 0 ≤ (x11_1 : Int) := of_decide_eq_true (by first | (with_reducible assumption) | assumption)
                        have q191 : x11_1 < (l1.length : Int) := of_decide_eq_true (by first | (with_reducible assumption) | assumption)
                        obtain ⟨ad191, e191, hx191_0⟩ := Kd.at_string HR1.out x11_1 p191 q191
                        cases e191
                        replace hx191_0 := (HB.out.cell (World.block_lt_of_cell? w _ hx191_0)).trans hx191_0
                        replace p191 := eq_true p191
                        replace q191 := eq_true q191
                        go_wp2_with (first | ((with_reducible refine gate_callee (f := 17) rfl ?_); refine goesL_ (some 46) rfl rfl Try.func17 (by kernel_rfl) rfl #[.int .i64 1, .int .i64 (wrap64 (a0 + x11_1)), .string (rdOf ByteArray.empty l1 x11_1)] rfl (by (try simp only [List.map_toArray, List.map_cons, List.map_nil]); first | done | rfl | (simp only [List.length_drop, List.length_take]; rfl)) ?_; (with_reducible refine (frame_Encode.calls 1 (wrap64 (a0 + x11_1)) (rdOf ByteArray.empty l1 x11_1) t192 t193 _ A24.out).mono ?_); rintro e w32 ⟨rfl, hb⟩; refine ⟨_, rfl, ?_⟩; have n0_ := Aside0.mk (Kd.R_below (by (with_reducible repeat (first | apply Kd.R_alloc | apply Kd.R_drewN | apply Kd.R_drew)); exact HO_10.out) hb); have n1_ := Aside0.mk (below_step (by repeat (first | (with_reducible first | exact HB.out | apply below_alloc | apply pw_below_drewN | apply below_drew1) | exact HB.out)) hb); clear HO_10; clear HB; have HO_10 := n0_; have HB := n1_; clear n0_ n1_; (try clear hb); (try clear hb2); (try clear hk); (try clear hi)))
                        go_ret3
                        exact ⟨_, by first | rfl | (simp [errW_none, errW_some] <;> rfl) | (simp [*, errW_none, errW_some] <;> rfl), by (with_reducible repeat (first | apply Kd.R_alloc | apply Kd.R_drewN | apply Kd.R_drew)); exact HO_10.out, by repeat (first | (with_reducible first | exact HB.out | apply below_alloc | apply pw_below_drewN | apply below_drew1) | exact HB.out)⟩
                    · rw [if_neg c23] at H
                      exact absurd H (by simp)
                  · rw [if_neg c22] at H
                    exact absurd H (by simp)
          · replace c6 := Bool.eq_false_iff.mpr c6
            subst c6
            have H1 : (some (x9_1, x10_1, true)) = some (r1, r2, r3) := by rw [if_neg (show ¬ (false = true) by decide)] at H; exact H
            clear H
            have H := H1
            clear H1
            simp only [Option.some.injEq, Prod.mk.injEq] at H
            obtain ⟨rfl, rfl, rfl⟩ := H
            go_wp2
            go_ret3
            exact ⟨_, by first | rfl | (simp [errW_none, errW_some] <;> rfl) | (simp [*, errW_none, errW_some] <;> rfl), by (with_reducible repeat (first | apply Kd.R_alloc | apply Kd.R_drewN | apply Kd.R_drew)); exact HO_10.out, by repeat (first | (with_reducible first | exact HB.out | apply below_alloc | apply pw_below_drewN | apply below_drew1) | exact HB.out)⟩

end Go.Proofs.Ytcndhgpaoihblaa.Fr
