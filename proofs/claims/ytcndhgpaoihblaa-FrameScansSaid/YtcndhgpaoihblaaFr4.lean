/- Printed by wip/myprint.py of this session over the kit's print.py: contracts of Go functions (each: what a plain Lean function says, the call does). -/
import Derived.Test.YtcndhgpaoihblaaFr0
import Derived.Test.YtcndhgpaoihblaaFr3
import Derived.Test.YtcndhgpaoihblaaGiven
import Derived.Test.YtcndhgpaoihblaaGivenK
namespace Go.Proofs.Ytcndhgpaoihblaa.Fr
open Go.RowKit Go.Proofs.YtcndhgpaoihblaaW.PrintWords Go.Proofs.YtcndhgpaoihblaaW.PrintLast Go.Proofs.YtcndhgpaoihblaaW.PrintMore
attribute [local go_sem] max2_int min2_int max_two min_two max_three min_three max_four min_four   -- for this text's walks alone
set_option linter.unusedVariables false
set_option linter.unusedSimpArgs false

/-! ### postbaglaw10_FrameSums: function 3 -/
mutual
def postbaglaw10_FrameSums.l0 : Nat → List ByteArray → Int → Int → Option (Bool)
  | 0, _, _, _ => none
  | k + 1, x0, x3, x4 => if x4 < (x0.length : Int) then (if 0 ≤ x4 then (if (wrap64 (x3 + ((rdOf ByteArray.empty x0 x4).size : Int))) > 4195304 then (some true) else (if x4 ≥ 40 then (some true) else (postbaglaw10_FrameSums.l0 k x0 (wrap64 (x3 + ((rdOf ByteArray.empty x0 x4).size : Int))) (wrap64 (x4 + 1))))) else (none)) else (postbaglaw10_FrameSums.l1 k x0 0)
def postbaglaw10_FrameSums.l1 : Nat → List ByteArray → Int → Option (Bool)
  | 0, _, _ => none
  | k + 1, x0, x5 => if x5 < (wrap64 (2 * (x0.length : Int))) then ((postbaglaw10_turn.f x5 (x0.length : Int)).bind fun t142 => (if 0 ≤ t142 then (if t142 < (x0.length : Int) then ((frame_Sum.f (rdOf ByteArray.empty x0 t142)).bind fun t144 => ((postbagref10_Sum.f k (rdOf ByteArray.empty x0 t142)).bind fun t145 => (if t144 = t145 then (postbaglaw10_FrameSums.l1 k x0 (wrap64 (x5 + 1))) else (some false)))) else (none)) else (none))) else ((postbaglaw10_known.f).bind fun t141 => (some t141))
end
def postbaglaw10_FrameSums.f (k : Nat) (l0 : List ByteArray) : Option (Bool) := postbaglaw10_FrameSums.l0 k l0 0 0
theorem postbaglaw10_FrameSums.mono_l : ∀ k, (∀ y0 y1 y2, LeO (postbaglaw10_FrameSums.l0 k y0 y1 y2) (postbaglaw10_FrameSums.l0 (k + 1) y0 y1 y2)) ∧ (∀ y0 y1, LeO (postbaglaw10_FrameSums.l1 k y0 y1) (postbaglaw10_FrameSums.l1 (k + 1) y0 y1))
  | 0 => ⟨fun _ _ _ r h => by simp [postbaglaw10_FrameSums.l0] at h, fun _ _ r h => by simp [postbaglaw10_FrameSums.l1] at h⟩
  | k + 1 => by
    obtain ⟨ih0, ih1⟩ := postbaglaw10_FrameSums.mono_l k
    refine ⟨?_, ?_⟩
    · intro y0 y1 y2
      unfold postbaglaw10_FrameSums.l0
      repeat' first
      | (with_reducible exact ih0 _ _ _)
      | (with_reducible exact ih1 _ _)
      | (with_reducible exact postbagref10_Sum.mono _ _)
      | (with_reducible exact LeO.refl _)
      | (with_reducible exact LeO.none _)
      | (with_reducible refine LeO.ite ?_ ?_)
      | (with_reducible refine LeO.bind ?_ (fun _ => ?_))
      | exact ih0 _ _ _
      | exact ih1 _ _
      | exact postbagref10_Sum.mono _ _
      | exact LeO.none _
      | refine LeO.ite ?_ ?_
      | refine LeO.bind ?_ (fun _ => ?_)
    · intro y0 y1
      unfold postbaglaw10_FrameSums.l1
      repeat' first
      | (with_reducible exact ih0 _ _ _)
      | (with_reducible exact ih1 _ _)
      | (with_reducible exact postbagref10_Sum.mono _ _)
      | (with_reducible exact LeO.refl _)
      | (with_reducible exact LeO.none _)
      | (with_reducible refine LeO.ite ?_ ?_)
      | (with_reducible refine LeO.bind ?_ (fun _ => ?_))
      | exact ih0 _ _ _
      | exact ih1 _ _
      | exact postbagref10_Sum.mono _ _
      | exact LeO.none _
      | refine LeO.ite ?_ ?_
      | refine LeO.bind ?_ (fun _ => ?_)
theorem postbaglaw10_FrameSums.mono : ∀ a0 k, LeO (postbaglaw10_FrameSums.f k a0) (postbaglaw10_FrameSums.f (k + 1) a0) := by
  intro a0 k
  obtain ⟨ih0, ih1⟩ := postbaglaw10_FrameSums.mono_l k
  unfold postbaglaw10_FrameSums.f
  repeat' first
      | (with_reducible exact ih0 _ _ _)
      | (with_reducible exact ih1 _ _)
      | (with_reducible exact postbagref10_Sum.mono _ _)
      | (with_reducible exact LeO.refl _)
      | (with_reducible exact LeO.none _)
      | (with_reducible refine LeO.ite ?_ ?_)
      | (with_reducible refine LeO.bind ?_ (fun _ => ?_))
      | exact ih0 _ _ _
      | exact ih1 _ _
      | exact postbagref10_Sum.mono _ _
      | exact LeO.none _
      | refine LeO.ite ?_ ?_
      | refine LeO.bind ?_ (fun _ => ?_)
set_option maxHeartbeats 8000000 in
set_option maxRecDepth 100000 in
theorem postbaglaw10_FrameSums.calls (k : Nat) (A0 : Option Addr) (c0 : Nat) (l0 : List ByteArray) (r : Bool) (w : World) (hr0 : Kd.C Kd.string w A0 l0.length l0) (hc0 : l0.length ≤ c0) (h : postbaglaw10_FrameSums.f k l0 = some r) :
    Calls Try.prog 3 #[.slice A0 l0.length c0] w fun e w' => e = .returned (.bool r) ∧ Below w.heap.size w w' := by
  have HR0 := Aside0.mk hr0
  have HC0 := Aside0.mk hc0
  clear hr0 hc0
  have HB := Aside0.mk (Below.refl w.heap.size w)
  have H : (postbaglaw10_FrameSums.l0 k l0 0 0) = some r := h
  clear h
  have H' := Aside0.mk H
  clear H
  go_enter Try.func3, Try.ntmps3
  go_wp2
  go_loopg [3, 4] k (fun kq v3 v4 w' => ∃ (x3_1 : Int) (x4_1 : Int), v3 = .int .i64 x3_1 ∧ v4 = .int .i64 x4_1 ∧ Aside0 (postbaglaw10_FrameSums.l0 kq l0 x3_1 x4_1 = some r) ∧ Aside0 (kq ≤ k) ∧ Aside0 (Below w.heap.size w w'))
  case atStart => exact ⟨(0), (0), (by first | rfl | (simp; done) | (simp [*]; done)), (by first | rfl | (simp; done) | (simp [*]; done)), H', ⟨Nat.le_refl _⟩, ⟨by repeat (first | (with_reducible first | exact HB.out | apply below_alloc | apply pw_below_drewN | apply below_drew1) | exact HB.out)⟩⟩
  case round =>
    clear H'
    obtain ⟨x3_1, x4_1, rfl, rfl, HA, HK1, HB⟩ := hrel
    cases gk with
    | zero => exact absurd HA.out (by simp [postbaglaw10_FrameSums.l0])
    | succ k1 =>
      have H := HA.out
      clear HA
      simp only [postbaglaw10_FrameSums.l0] at H
      by_cases c2 : x4_1 < (l0.length : Int)
      · rw [if_pos c2] at H
        have c2b0 : decide (x4_1 < (l0.length : Int)) = true := decide_eq_true c2
        clear c2
        by_cases c3 : 0 ≤ x4_1
        · rw [if_pos c3] at H
          have c3b0 : decide (0 ≤ x4_1) = true := decide_eq_true c3
          clear c3
          by_cases c4 : (wrap64 (x3_1 + ((rdOf ByteArray.empty l0 x4_1).size : Int))) > 4195304
          · rw [if_pos c4] at H
            have c4b0 : decide (4195304 < (wrap64 (x3_1 + ((rdOf ByteArray.empty l0 x4_1).size : Int)))) = true := decide_eq_true c4
            clear c4
            obtain rfl := Option.some.inj H
            have p140 : 0 ≤ (x4_1 : Int) := of_decide_eq_true (by first | (with_reducible assumption) | assumption)
            have q140 : x4_1 < (l0.length : Int) := of_decide_eq_true (by first | (with_reducible assumption) | assumption)
            obtain ⟨ad140, e140, hx140_0⟩ := Kd.at_string HR0.out x4_1 p140 q140
            cases e140
            replace hx140_0 := (HB.out.cell (World.block_lt_of_cell? w _ hx140_0)).trans hx140_0
            replace p140 := eq_true p140
            replace q140 := eq_true q140
            go_wp2
            go_ret
            exact ⟨by first | rfl | (simp [errW_none, errW_some] <;> rfl) | (simp [*, errW_none, errW_some] <;> rfl), by repeat (first | (with_reducible first | exact HB.out | apply below_alloc | apply pw_below_drewN | apply below_drew1) | exact HB.out)⟩
          · rw [if_neg c4] at H
            have c4b0 : decide (4195304 < (wrap64 (x3_1 + ((rdOf ByteArray.empty l0 x4_1).size : Int)))) = false := decide_eq_false c4
            clear c4
            by_cases c5 : x4_1 ≥ 40
            · rw [if_pos c5] at H
              have c5b0 : decide (40 ≤ x4_1) = true := decide_eq_true c5
              clear c5
              obtain rfl := Option.some.inj H
              have p140 : 0 ≤ (x4_1 : Int) := of_decide_eq_true (by first | (with_reducible assumption) | assumption)
              have q140 : x4_1 < (l0.length : Int) := of_decide_eq_true (by first | (with_reducible assumption) | assumption)
              obtain ⟨ad140, e140, hx140_0⟩ := Kd.at_string HR0.out x4_1 p140 q140
              cases e140
              replace hx140_0 := (HB.out.cell (World.block_lt_of_cell? w _ hx140_0)).trans hx140_0
              replace p140 := eq_true p140
              replace q140 := eq_true q140
              go_wp2
              go_ret
              exact ⟨by first | rfl | (simp [errW_none, errW_some] <;> rfl) | (simp [*, errW_none, errW_some] <;> rfl), by repeat (first | (with_reducible first | exact HB.out | apply below_alloc | apply pw_below_drewN | apply below_drew1) | exact HB.out)⟩
            · rw [if_neg c5] at H
              have c5b0 : decide (40 ≤ x4_1) = false := decide_eq_false c5
              clear c5
              have H' := Aside0.mk H
              clear H
              have p140 : 0 ≤ (x4_1 : Int) := of_decide_eq_true (by first | (with_reducible assumption) | assumption)
              have q140 : x4_1 < (l0.length : Int) := of_decide_eq_true (by first | (with_reducible assumption) | assumption)
              obtain ⟨ad140, e140, hx140_0⟩ := Kd.at_string HR0.out x4_1 p140 q140
              cases e140
              replace hx140_0 := (HB.out.cell (World.block_lt_of_cell? w _ hx140_0)).trans hx140_0
              replace p140 := eq_true p140
              replace q140 := eq_true q140
              go_wp2
              go_roundg k1
              case measure => have := HK1.out; omega
              case rel => exact ⟨(wrap64 (x3_1 + ((rdOf ByteArray.empty l0 x4_1).size : Int))), (wrap64 (x4_1 + 1)), (by first | rfl | (simp; done) | (simp [*]; done)), (by first | rfl | (simp; done) | (simp [*]; done)), H', ⟨by have := HK1.out; omega⟩, ⟨by repeat (first | (with_reducible first | exact HB.out | apply below_alloc | apply pw_below_drewN | apply below_drew1) | exact HB.out)⟩⟩
        · rw [if_neg c3] at H
          exact absurd H (by simp)
      · rw [if_neg c2] at H
        have c2b0 : decide (x4_1 < (l0.length : Int)) = false := decide_eq_false c2
        clear c2
        have H' := Aside0.mk H
        clear H
        go_wp2
        go_loopg [5] k1 (fun kq v5 w' => ∃ (x5_2 : Int), v5 = .int .i64 x5_2 ∧ Aside0 (postbaglaw10_FrameSums.l1 kq l0 x5_2 = some r) ∧ Aside0 (kq ≤ k1) ∧ Aside0 (Below w.heap.size w w'))
        case atStart => exact ⟨(0), (by first | rfl | (simp; done) | (simp [*]; done)), H', ⟨Nat.le_refl _⟩, ⟨by repeat (first | (with_reducible first | exact HB.out | apply below_alloc | apply pw_below_drewN | apply below_drew1) | exact HB.out)⟩⟩
        case round =>
          clear H'
          try clear p1
          try clear q1
          try clear hx1
          try clear c2
          try clear c2b0
          try clear p2
          try clear c3
          try clear c3b0
          try clear c4
          try clear c4b0
          try clear c5
          try clear c5b0
          try clear hx140_0
          try clear p140
          try clear q140
          obtain ⟨x5_2, rfl, HA, HK2, HB⟩ := hrel
          cases gk with
          | zero => exact absurd HA.out (by simp [postbaglaw10_FrameSums.l1])
          | succ k2 =>
            have H := HA.out
            clear HA
            simp only [postbaglaw10_FrameSums.l1] at H
            by_cases c6 : x5_2 < (wrap64 (2 * (l0.length : Int)))
            · rw [if_pos c6] at H
              have c6b0 : decide (x5_2 < (wrap64 (2 * (l0.length : Int)))) = true := decide_eq_true c6
              clear c6
              replace H := Option.bind_eq_some_iff.mp H
              obtain ⟨t142, A70, H⟩ := H
              replace H : (if 0 ≤ t142 then (if t142 < (l0.length : Int) then ((frame_Sum.f (rdOf ByteArray.empty l0 t142)).bind fun t144 => ((postbagref10_Sum.f k2 (rdOf ByteArray.empty l0 t142)).bind fun t145 => (if t144 = t145 then (postbaglaw10_FrameSums.l1 k2 l0 (wrap64 (x5_2 + 1))) else (some false)))) else (none)) else (none)) = some r := H
              have A7 := Aside0.mk A70
              clear A70
              by_cases c8 : 0 ≤ t142
              · rw [if_pos c8] at H
                have c8b0 : decide (0 ≤ t142) = true := decide_eq_true c8
                clear c8
                by_cases c9 : t142 < (l0.length : Int)
                · rw [if_pos c9] at H
                  have c9b0 : decide (t142 < (l0.length : Int)) = true := decide_eq_true c9
                  clear c9
                  replace H := Option.bind_eq_some_iff.mp H
                  obtain ⟨t144, A100, H⟩ := H
                  replace H : ((postbagref10_Sum.f k2 (rdOf ByteArray.empty l0 t142)).bind fun t145 => (if t144 = t145 then (postbaglaw10_FrameSums.l1 k2 l0 (wrap64 (x5_2 + 1))) else (some false))) = some r := H
                  have A10 := Aside0.mk A100
                  clear A100
                  replace H := Option.bind_eq_some_iff.mp H
                  obtain ⟨t145, A110, H⟩ := H
                  replace H : (if t144 = t145 then (postbaglaw10_FrameSums.l1 k2 l0 (wrap64 (x5_2 + 1))) else (some false)) = some r := H
                  have A11 := Aside0.mk A110
                  clear A110
                  by_cases c12 : t144 = t145
                  · rw [if_pos c12] at H
                    have c12b0 : (t144 == t145) = true := beq_iff_eq.mpr c12
                    have c12b1 : (t144 != t145) = false := bne_eq_false_iff_eq.mpr c12
                    clear c12
                    have H' := Aside0.mk H
                    clear H
                    go_wp2_with (first | ((with_reducible refine gate_callee (f := 11) rfl ?_); refine goesL_ (some 37) rfl rfl Try.func11 (by kernel_rfl) rfl #[.int .i64 x5_2, .int .i64 (l0.length : Int)] rfl (by (try simp only [List.map_toArray, List.map_cons, List.map_nil]); first | done | rfl | (simp only [List.length_drop, List.length_take]; rfl)) ?_; (with_reducible refine (postbaglaw10_turn.calls x5_2 (l0.length : Int) t142 _ A7.out).mono ?_); rintro e w' ⟨rfl, ⟨nd, rfl⟩⟩; refine ⟨_, rfl, ?_⟩; have p143 : 0 ≤ (t142 : Int) := of_decide_eq_true (by first | (with_reducible assumption) | assumption); have q143 : t142 < (l0.length : Int) := of_decide_eq_true (by first | (with_reducible assumption) | assumption); obtain ⟨ad143, e143, hx143_0⟩ := Kd.at_string HR0.out t142 p143 q143; cases e143; replace hx143_0 := (HB.out.cell (World.block_lt_of_cell? w _ hx143_0)).trans hx143_0; replace p143 := eq_true p143; replace q143 := eq_true q143) | ((with_reducible refine gate_callee (f := 12) rfl ?_); refine goesL_ (some 41) rfl rfl Try.func12 (by kernel_rfl) rfl #[.string (rdOf ByteArray.empty l0 t142)] rfl (by (try simp only [List.map_toArray, List.map_cons, List.map_nil]); first | done | rfl | (simp only [List.length_drop, List.length_take]; rfl)) ?_; (with_reducible refine (frame_Sum.calls (rdOf ByteArray.empty l0 t142) t144 _ A10.out).mono ?_); rintro e w13 ⟨rfl, hb⟩; refine ⟨_, rfl, ?_⟩; have n0_ := Aside0.mk (below_step (by repeat (first | (with_reducible first | exact HB.out | apply below_alloc | apply pw_below_drewN | apply below_drew1) | exact HB.out)) hb); clear HB; have HB := n0_; clear n0_; (try clear hb); (try clear hb2); (try clear hk); (try clear hi)) | ((with_reducible refine gate_callee (f := 13) rfl ?_); refine goesL_ (some 43) rfl rfl Try.func13 (by kernel_rfl) rfl #[.string (rdOf ByteArray.empty l0 t142)] rfl (by (try simp only [List.map_toArray, List.map_cons, List.map_nil]); first | done | rfl | (simp only [List.length_drop, List.length_take]; rfl)) ?_; (with_reducible refine (postbagref10_Sum.calls k2 (rdOf ByteArray.empty l0 t142) t145 _ A11.out).mono ?_); rintro e w' ⟨rfl, ⟨nd, rfl⟩⟩; refine ⟨_, rfl, ?_⟩))
                    go_roundg k2
                    case measure => have := HK1.out; have := HK2.out; omega
                    case rel => exact ⟨(wrap64 (x5_2 + 1)), (by first | rfl | (simp; done) | (simp [*]; done)), H', ⟨by have := HK1.out; have := HK2.out; omega⟩, ⟨by repeat (first | (with_reducible first | exact HB.out | apply below_alloc | apply pw_below_drewN | apply below_drew1) | exact HB.out)⟩⟩
                  · rw [if_neg c12] at H
                    have c12b0 : (t144 == t145) = false := beq_eq_false_iff_ne.mpr c12
                    have c12b1 : (t144 != t145) = true := bne_iff_ne.mpr c12
                    obtain rfl := Option.some.inj H
                    go_wp2_with (first | ((with_reducible refine gate_callee (f := 11) rfl ?_); refine goesL_ (some 37) rfl rfl Try.func11 (by kernel_rfl) rfl #[.int .i64 x5_2, .int .i64 (l0.length : Int)] rfl (by (try simp only [List.map_toArray, List.map_cons, List.map_nil]); first | done | rfl | (simp only [List.length_drop, List.length_take]; rfl)) ?_; (with_reducible refine (postbaglaw10_turn.calls x5_2 (l0.length : Int) t142 _ A7.out).mono ?_); rintro e w' ⟨rfl, ⟨nd, rfl⟩⟩; refine ⟨_, rfl, ?_⟩; have p143 : 0 ≤ (t142 : Int) := of_decide_eq_true (by first | (with_reducible assumption) | assumption); have q143 : t142 < (l0.length : Int) := of_decide_eq_true (by first | (with_reducible assumption) | assumption); obtain ⟨ad143, e143, hx143_0⟩ := Kd.at_string HR0.out t142 p143 q143; cases e143; replace hx143_0 := (HB.out.cell (World.block_lt_of_cell? w _ hx143_0)).trans hx143_0; replace p143 := eq_true p143; replace q143 := eq_true q143) | ((with_reducible refine gate_callee (f := 12) rfl ?_); refine goesL_ (some 41) rfl rfl Try.func12 (by kernel_rfl) rfl #[.string (rdOf ByteArray.empty l0 t142)] rfl (by (try simp only [List.map_toArray, List.map_cons, List.map_nil]); first | done | rfl | (simp only [List.length_drop, List.length_take]; rfl)) ?_; (with_reducible refine (frame_Sum.calls (rdOf ByteArray.empty l0 t142) t144 _ A10.out).mono ?_); rintro e w14 ⟨rfl, hb⟩; refine ⟨_, rfl, ?_⟩; have n0_ := Aside0.mk (below_step (by repeat (first | (with_reducible first | exact HB.out | apply below_alloc | apply pw_below_drewN | apply below_drew1) | exact HB.out)) hb); clear HB; have HB := n0_; clear n0_; (try clear hb); (try clear hb2); (try clear hk); (try clear hi)) | ((with_reducible refine gate_callee (f := 13) rfl ?_); refine goesL_ (some 43) rfl rfl Try.func13 (by kernel_rfl) rfl #[.string (rdOf ByteArray.empty l0 t142)] rfl (by (try simp only [List.map_toArray, List.map_cons, List.map_nil]); first | done | rfl | (simp only [List.length_drop, List.length_take]; rfl)) ?_; (with_reducible refine (postbagref10_Sum.calls k2 (rdOf ByteArray.empty l0 t142) t145 _ A11.out).mono ?_); rintro e w' ⟨rfl, ⟨nd, rfl⟩⟩; refine ⟨_, rfl, ?_⟩))
                    go_ret
                    exact ⟨by first | rfl | (simp [errW_none, errW_some] <;> rfl) | (simp [*, errW_none, errW_some] <;> rfl), by repeat (first | (with_reducible first | exact HB.out | apply below_alloc | apply pw_below_drewN | apply below_drew1) | exact HB.out)⟩
                · rw [if_neg c9] at H
                  exact absurd H (by simp)
              · rw [if_neg c8] at H
                exact absurd H (by simp)
            · rw [if_neg c6] at H
              have c6b0 : decide (x5_2 < (wrap64 (2 * (l0.length : Int)))) = false := decide_eq_false c6
              clear c6
              replace H := Option.bind_eq_some_iff.mp H
              obtain ⟨t141, A150, H⟩ := H
              replace H : (some t141) = some r := H
              have A15 := Aside0.mk A150
              clear A150
              obtain rfl := Option.some.inj H
              go_wp2_with (first | ((with_reducible refine gate_callee (f := 14) rfl ?_); refine goesL_ (some 45) rfl rfl Try.func14 (by kernel_rfl) rfl #[] rfl (by (try simp only [List.map_toArray, List.map_cons, List.map_nil]); first | done | rfl | (simp only [List.length_drop, List.length_take]; rfl)) ?_; (with_reducible refine (postbaglaw10_known.calls  t141 _ A15.out).mono ?_); rintro e w16 ⟨rfl, hb⟩; refine ⟨_, rfl, ?_⟩; have n0_ := Aside0.mk (below_step (by repeat (first | (with_reducible first | exact HB.out | apply below_alloc | apply pw_below_drewN | apply below_drew1) | exact HB.out)) hb); clear HB; have HB := n0_; clear n0_; (try clear hb); (try clear hb2); (try clear hk); (try clear hi)))
              go_ret
              exact ⟨by first | rfl | (simp [errW_none, errW_some] <;> rfl) | (simp [*, errW_none, errW_some] <;> rfl), by repeat (first | (with_reducible first | exact HB.out | apply below_alloc | apply pw_below_drewN | apply below_drew1) | exact HB.out)⟩

/-! ### postbaglaw10_body: function 15 -/
mutual
def postbaglaw10_body.l0 : Nat → ByteArray → Int → Int → Int → ByteArray → Int → Int → Option (ByteArray)
  | 0, _, _, _, _, _, _, _ => none
  | k + 1, x3, x4, x147000, x147001, x147002, x147003, x147004 => if x4 < x147003 then (if (x3.size : Int) ≤ 2097152 then (postbaglaw10_body.j1 k x3 x4 (decide ((x3.size : Int) > 0)) x147000 x147001 x147002 x147003 x147004) else (postbaglaw10_body.j1 k x3 x4 false x147000 x147001 x147002 x147003 x147004)) else (postbaglaw10_body.j1 k x3 x4 false x147000 x147001 x147002 x147003 x147004)
def postbaglaw10_body.j1 : Nat → ByteArray → Int → Bool → Int → Int → ByteArray → Int → Int → Option (ByteArray)
  | 0, _, _, _, _, _, _, _, _ => none
  | k + 1, x3, x4, x20, x147000, x147001, x147002, x147003, x147004 => if x20 = true then (if x3.size + x3.size ≤ 9223372036854775807 then (if ((x3 ++ x3).size : Int) > 2097153 then (if 0 ≤ 2097153 then (if 2097153 ≤ ((x3 ++ x3).size : Int) then (postbaglaw10_body.l0 k ((x3 ++ x3).extract 0 2097153) (wrap64 (x4 + 1)) x147000 x147001 x147002 x147003 x147004) else (none)) else (none)) else (postbaglaw10_body.l0 k (x3 ++ x3) (wrap64 (x4 + 1)) x147000 x147001 x147002 x147003 x147004)) else (none)) else (some x3)
end
def postbaglaw10_body.f (k : Nat) (a0_0 : Int) (a0_1 : Int) (a0_2 : ByteArray) (a0_3 : Int) (a0_4 : Int) : Option (ByteArray) := postbaglaw10_body.l0 k a0_2 1 a0_0 a0_1 a0_2 a0_3 a0_4
theorem postbaglaw10_body.mono_l : ∀ k, (∀ y0 y1 y2 y3 y4 y5 y6, LeO (postbaglaw10_body.l0 k y0 y1 y2 y3 y4 y5 y6) (postbaglaw10_body.l0 (k + 1) y0 y1 y2 y3 y4 y5 y6)) ∧ (∀ y0 y1 y2 y3 y4 y5 y6 y7, LeO (postbaglaw10_body.j1 k y0 y1 y2 y3 y4 y5 y6 y7) (postbaglaw10_body.j1 (k + 1) y0 y1 y2 y3 y4 y5 y6 y7))
  | 0 => ⟨fun _ _ _ _ _ _ _ r h => by simp [postbaglaw10_body.l0] at h, fun _ _ _ _ _ _ _ _ r h => by simp [postbaglaw10_body.j1] at h⟩
  | k + 1 => by
    obtain ⟨ih0, ih1⟩ := postbaglaw10_body.mono_l k
    refine ⟨?_, ?_⟩
    · intro y0 y1 y2 y3 y4 y5 y6
      unfold postbaglaw10_body.l0
      repeat' first
      | (with_reducible exact ih0 _ _ _ _ _ _ _)
      | (with_reducible exact ih1 _ _ _ _ _ _ _ _)
      | (with_reducible exact LeO.refl _)
      | (with_reducible exact LeO.none _)
      | (with_reducible refine LeO.ite ?_ ?_)
      | (with_reducible refine LeO.bind ?_ (fun _ => ?_))
      | exact ih0 _ _ _ _ _ _ _
      | exact ih1 _ _ _ _ _ _ _ _
      | exact LeO.none _
      | refine LeO.ite ?_ ?_
      | refine LeO.bind ?_ (fun _ => ?_)
    · intro y0 y1 y2 y3 y4 y5 y6 y7
      unfold postbaglaw10_body.j1
      repeat' first
      | (with_reducible exact ih0 _ _ _ _ _ _ _)
      | (with_reducible exact ih1 _ _ _ _ _ _ _ _)
      | (with_reducible exact LeO.refl _)
      | (with_reducible exact LeO.none _)
      | (with_reducible refine LeO.ite ?_ ?_)
      | (with_reducible refine LeO.bind ?_ (fun _ => ?_))
      | exact ih0 _ _ _ _ _ _ _
      | exact ih1 _ _ _ _ _ _ _ _
      | exact LeO.none _
      | refine LeO.ite ?_ ?_
      | refine LeO.bind ?_ (fun _ => ?_)
theorem postbaglaw10_body.mono : ∀ a0 a1 a2 a3 a4 k, LeO (postbaglaw10_body.f k a0 a1 a2 a3 a4) (postbaglaw10_body.f (k + 1) a0 a1 a2 a3 a4) := by
  intro a0 a1 a2 a3 a4 k
  obtain ⟨ih0, ih1⟩ := postbaglaw10_body.mono_l k
  unfold postbaglaw10_body.f
  repeat' first
      | (with_reducible exact ih0 _ _ _ _ _ _ _)
      | (with_reducible exact ih1 _ _ _ _ _ _ _ _)
      | (with_reducible exact LeO.refl _)
      | (with_reducible exact LeO.none _)
      | (with_reducible refine LeO.ite ?_ ?_)
      | (with_reducible refine LeO.bind ?_ (fun _ => ?_))
      | exact ih0 _ _ _ _ _ _ _
      | exact ih1 _ _ _ _ _ _ _ _
      | exact LeO.none _
      | refine LeO.ite ?_ ?_
      | refine LeO.bind ?_ (fun _ => ?_)
set_option maxHeartbeats 8000000 in
set_option maxRecDepth 100000 in
theorem postbaglaw10_body.calls (k : Nat) (a0_0 : Int) (a0_1 : Int) (a0_2 : ByteArray) (a0_3 : Int) (a0_4 : Int) (r : ByteArray) (w : World) (h : postbaglaw10_body.f k a0_0 a0_1 a0_2 a0_3 a0_4 = some r) :
    Calls Try.prog 15 #[.agg #[.int .i64 a0_0, .int .i64 a0_1, .string a0_2, .int .i64 a0_3, .int .i64 a0_4]] w fun e w' => e = .returned (.string r) ∧ Below w.heap.size w w' := by
  have hu29 := Try.underlying29
  have HB := Aside0.mk (Below.refl w.heap.size w)
  have H : (postbaglaw10_body.l0 k a0_2 1 a0_0 a0_1 a0_2 a0_3 a0_4) = some r := h
  clear h
  have H' := Aside0.mk H
  clear H
  go_enter Try.func15, Try.ntmps15
  go_wp2_with (first | ((with_reducible refine gate_dst (N := 1) rfl ?_); (try (refine gate_guard (by rfl) ?_; dsimp only)); refine box_event ?hg (N := 1) ?hd (cs := #[.int .i64 a0_0, .int .i64 a0_1, .string a0_2, .int .i64 a0_3, .int .i64 a0_4]) (t := 29) ?hr ?_; (case hd => rfl); (case hg => rfl); (case hr => first | (go_simp; done) | (go_simp; rfl)); intro gb146 hg w2 hbox hb; have n0_ := Aside0.mk (below_step (by repeat (first | (with_reducible first | exact HB.out | apply below_alloc | apply pw_below_drewN | apply below_drew1) | exact HB.out)) hb); have n1_ := Aside0.mk (hbox); have n2_ := Aside0.mk ((by rw [hg]; exact (below_size (by repeat (first | (with_reducible first | exact HB.out | apply below_alloc | apply pw_below_drewN | apply below_drew1) | exact HB.out))) : w.heap.size ≤ gb146)); have n3_ := Aside0.mk ((by rw [hg]; exact (below_size (by repeat (first | (with_reducible first | exact HB.out | apply below_alloc | apply pw_below_drewN | apply below_drew1) | exact HB.out))) : w.heap.size ≤ gb146)); clear HB; have HB := n0_; have BK146 := n1_; have GW146 := n2_; have GE146 := n3_; clear n0_ n1_ n2_ n3_; clear hb hbox hg; have hcz3_0 : w2.cell? ⟨gb146, 0, none⟩ = some (.int .i64 a0_0) := (blk_cell BK146.out 0).trans rfl; have hcz3_1 : w2.cell? ⟨gb146, 1, none⟩ = some (.int .i64 a0_1) := (blk_cell BK146.out 1).trans rfl; have hcz3_2 : w2.cell? ⟨gb146, 2, none⟩ = some (.string a0_2) := (blk_cell BK146.out 2).trans rfl; have hcz3_3 : w2.cell? ⟨gb146, 3, none⟩ = some (.int .i64 a0_3) := (blk_cell BK146.out 3).trans rfl; have hcz3_4 : w2.cell? ⟨gb146, 4, none⟩ = some (.int .i64 a0_4) := (blk_cell BK146.out 4).trans rfl; have hfz3_0 := blk_frozen BK146.out 0; have hfz3_1 := blk_frozen BK146.out 1; have hfz3_2 := blk_frozen BK146.out 2; have hfz3_3 := blk_frozen BK146.out 3; have hfz3_4 := blk_frozen BK146.out 4))
  go_loopg [3, 4] k (fun kq v3 v4 w' => ∃ (x3_1 : ByteArray) (x4_1 : Int), v3 = .string x3_1 ∧ v4 = .int .i64 x4_1 ∧ Aside0 (postbaglaw10_body.l0 kq x3_1 x4_1 a0_0 a0_1 a0_2 a0_3 a0_4 = some r) ∧ Aside0 (kq ≤ k) ∧ Aside0 (w'.heap[gb146]? = some (.cells #[.int .i64 a0_0, .int .i64 a0_1, .string a0_2, .int .i64 a0_3, .int .i64 a0_4] 29 (0, 0))) ∧ Aside0 (Below w.heap.size w w'))
  case atStart => exact ⟨(a0_2), (1), (by first | rfl | (simp; done) | (simp [*]; done)), (by first | rfl | (simp; done) | (simp [*]; done)), H', ⟨Nat.le_refl _⟩, ⟨by (with_reducible repeat (first | refine blk_drewN ?_ _ | refine blk_drew ?_ | refine blk_alloc ?_ _)); exact BK146.out⟩, ⟨by repeat (first | (with_reducible first | exact HB.out | apply below_alloc | apply pw_below_drewN | apply below_drew1 | refine below_set ?_ GE146.out) | exact HB.out)⟩⟩
  case round =>
    clear H'
    try clear c1
    try clear p2
    try clear hcz3_0
    try clear hcz3_1
    try clear hcz3_2
    try clear hcz3_3
    try clear hcz3_4
    try clear hfz3_0
    try clear hfz3_1
    try clear hfz3_2
    try clear hfz3_3
    try clear hfz3_4
    obtain ⟨x3_1, x4_1, rfl, rfl, HA, HK1, BK146, HB⟩ := hrel
    cases gk with
    | zero => exact absurd HA.out (by simp [postbaglaw10_body.l0])
    | succ k1 =>
      have H := HA.out
      clear HA
      simp only [postbaglaw10_body.l0] at H
      have HC4 := Aside0.mk H
      clear H
      go_upto_region 3 with (fail)
      go_cut [20] (fun v20 wc => ∃ (kq : Nat) (x20_3 : Bool), v20 = .bool x20_3 ∧ Aside0 (postbaglaw10_body.j1 kq x3_1 x4_1 x20_3 a0_0 a0_1 a0_2 a0_3 a0_4 = some r) ∧ Aside0 (kq ≤ k1) ∧ Aside0 (wc.heap[gb146]? = some (.cells #[.int .i64 a0_0, .int .i64 a0_1, .string a0_2, .int .i64 a0_3, .int .i64 a0_4] 29 (0, 0))) ∧ Aside0 (Below w.heap.size w wc))
      case first =>
        have H := HC4.out
        clear HC4
        by_cases c5 : x4_1 < a0_3
        · rw [if_pos c5] at H
          have c5b0 : decide (x4_1 < a0_3) = true := decide_eq_true c5
          clear c5
          (first | rw [c5b0] | (simp only [i64_w, i32_w]; rw [c5b0]) | skip)
          by_cases c6 : (x3_1.size : Int) ≤ 2097152
          · rw [if_pos c6] at H
            have c6b0 : decide ((x3_1.size : Int) ≤ 2097152) = true := decide_eq_true c6
            have c6b1 : decide (x3_1.size ≤ 2097152) = true := decide_eq_true (by omega)
            clear c6
            have H' := Aside0.mk H
            clear H
            have hcz7_0 : wr.cell? ⟨gb146, 0, none⟩ = some (.int .i64 a0_0) := (blk_cell BK146.out 0).trans rfl
            have hcz7_1 : wr.cell? ⟨gb146, 1, none⟩ = some (.int .i64 a0_1) := (blk_cell BK146.out 1).trans rfl
            have hcz7_2 : wr.cell? ⟨gb146, 2, none⟩ = some (.string a0_2) := (blk_cell BK146.out 2).trans rfl
            have hcz7_3 : wr.cell? ⟨gb146, 3, none⟩ = some (.int .i64 a0_3) := (blk_cell BK146.out 3).trans rfl
            have hcz7_4 : wr.cell? ⟨gb146, 4, none⟩ = some (.int .i64 a0_4) := (blk_cell BK146.out 4).trans rfl
            have hfz7_0 := blk_frozen BK146.out 0
            have hfz7_1 := blk_frozen BK146.out 1
            have hfz7_2 := blk_frozen BK146.out 2
            have hfz7_3 := blk_frozen BK146.out 3
            have hfz7_4 := blk_frozen BK146.out 4
            go_wp2
            go_meet
            case rel => exact ⟨_, (decide ((x3_1.size : Int) > 0)), (by first | rfl | (simp; done) | (simp [*]; done)), H', ⟨by have := HK1.out; first | omega | exact Nat.le_refl _⟩, ⟨by (with_reducible repeat (first | refine blk_drewN ?_ _ | refine blk_drew ?_ | refine blk_alloc ?_ _)); exact BK146.out⟩, ⟨by repeat (first | (with_reducible first | exact HB.out | apply below_alloc | apply pw_below_drewN | apply below_drew1 | refine below_set ?_ GE146.out) | exact HB.out)⟩⟩
          · rw [if_neg c6] at H
            have c6b0 : decide ((x3_1.size : Int) ≤ 2097152) = false := decide_eq_false c6
            have c6b1 : decide (x3_1.size ≤ 2097152) = false := decide_eq_false (by omega)
            clear c6
            have H' := Aside0.mk H
            clear H
            have hcz8_0 : wr.cell? ⟨gb146, 0, none⟩ = some (.int .i64 a0_0) := (blk_cell BK146.out 0).trans rfl
            have hcz8_1 : wr.cell? ⟨gb146, 1, none⟩ = some (.int .i64 a0_1) := (blk_cell BK146.out 1).trans rfl
            have hcz8_2 : wr.cell? ⟨gb146, 2, none⟩ = some (.string a0_2) := (blk_cell BK146.out 2).trans rfl
            have hcz8_3 : wr.cell? ⟨gb146, 3, none⟩ = some (.int .i64 a0_3) := (blk_cell BK146.out 3).trans rfl
            have hcz8_4 : wr.cell? ⟨gb146, 4, none⟩ = some (.int .i64 a0_4) := (blk_cell BK146.out 4).trans rfl
            have hfz8_0 := blk_frozen BK146.out 0
            have hfz8_1 := blk_frozen BK146.out 1
            have hfz8_2 := blk_frozen BK146.out 2
            have hfz8_3 := blk_frozen BK146.out 3
            have hfz8_4 := blk_frozen BK146.out 4
            go_wp2
            go_meet
            case rel => exact ⟨_, (false), (by first | rfl | (simp; done) | (simp [*]; done)), H', ⟨by have := HK1.out; first | omega | exact Nat.le_refl _⟩, ⟨by (with_reducible repeat (first | refine blk_drewN ?_ _ | refine blk_drew ?_ | refine blk_alloc ?_ _)); exact BK146.out⟩, ⟨by repeat (first | (with_reducible first | exact HB.out | apply below_alloc | apply pw_below_drewN | apply below_drew1 | refine below_set ?_ GE146.out) | exact HB.out)⟩⟩
        · rw [if_neg c5] at H
          have c5b0 : decide (x4_1 < a0_3) = false := decide_eq_false c5
          clear c5
          (first | rw [c5b0] | (simp only [i64_w, i32_w]; rw [c5b0]) | skip)
          have H' := Aside0.mk H
          clear H
          have hcz9_0 : wr.cell? ⟨gb146, 0, none⟩ = some (.int .i64 a0_0) := (blk_cell BK146.out 0).trans rfl
          have hcz9_1 : wr.cell? ⟨gb146, 1, none⟩ = some (.int .i64 a0_1) := (blk_cell BK146.out 1).trans rfl
          have hcz9_2 : wr.cell? ⟨gb146, 2, none⟩ = some (.string a0_2) := (blk_cell BK146.out 2).trans rfl
          have hcz9_3 : wr.cell? ⟨gb146, 3, none⟩ = some (.int .i64 a0_3) := (blk_cell BK146.out 3).trans rfl
          have hcz9_4 : wr.cell? ⟨gb146, 4, none⟩ = some (.int .i64 a0_4) := (blk_cell BK146.out 4).trans rfl
          have hfz9_0 := blk_frozen BK146.out 0
          have hfz9_1 := blk_frozen BK146.out 1
          have hfz9_2 := blk_frozen BK146.out 2
          have hfz9_3 := blk_frozen BK146.out 3
          have hfz9_4 := blk_frozen BK146.out 4
          go_wp2
          go_meet
          case rel => exact ⟨_, (false), (by first | rfl | (simp; done) | (simp [*]; done)), H', ⟨by have := HK1.out; first | omega | exact Nat.le_refl _⟩, ⟨by (with_reducible repeat (first | refine blk_drewN ?_ _ | refine blk_drew ?_ | refine blk_alloc ?_ _)); exact BK146.out⟩, ⟨by repeat (first | (with_reducible first | exact HB.out | apply below_alloc | apply pw_below_drewN | apply below_drew1 | refine below_set ?_ GE146.out) | exact HB.out)⟩⟩
      case rest =>
        clear HC4
        try clear c1
        try clear p2
        try clear c5
        try clear c5b0
        try clear c6
        try clear c6b0
        try clear c6b1
        try clear hcz3_0
        try clear hcz3_1
        try clear hcz3_2
        try clear hcz3_3
        try clear hcz3_4
        try clear hcz7_0
        try clear hcz7_1
        try clear hcz7_2
        try clear hcz7_3
        try clear hcz7_4
        try clear hcz8_0
        try clear hcz8_1
        try clear hcz8_2
        try clear hcz8_3
        try clear hcz8_4
        try clear hcz9_0
        try clear hcz9_1
        try clear hcz9_2
        try clear hcz9_3
        try clear hcz9_4
        try clear hfz3_0
        try clear hfz3_1
        try clear hfz3_2
        try clear hfz3_3
        try clear hfz3_4
        try clear hfz7_0
        try clear hfz7_1
        try clear hfz7_2
        try clear hfz7_3
        try clear hfz7_4
        try clear hfz8_0
        try clear hfz8_1
        try clear hfz8_2
        try clear hfz8_3
        try clear hfz8_4
        try clear hfz9_0
        try clear hfz9_1
        try clear hfz9_2
        try clear hfz9_3
        try clear hfz9_4
        try clear p2
        obtain ⟨kq, x20_3, rfl, HA, HJ3, BK146, HB⟩ := hcut
        cases kq with
        | zero => exact absurd HA.out (by simp [postbaglaw10_body.j1])
        | succ kj3 =>
          have H := HA.out
          clear HA
          simp only [postbaglaw10_body.j1] at H
          by_cases c10 : x20_3 = true
          · subst c10
            have H1 : (if x3_1.size + x3_1.size ≤ 9223372036854775807 then (if ((x3_1 ++ x3_1).size : Int) > 2097153 then (if 0 ≤ 2097153 then (if 2097153 ≤ ((x3_1 ++ x3_1).size : Int) then (postbaglaw10_body.l0 kj3 ((x3_1 ++ x3_1).extract 0 2097153) (wrap64 (x4_1 + 1)) a0_0 a0_1 a0_2 a0_3 a0_4) else (none)) else (none)) else (postbaglaw10_body.l0 kj3 (x3_1 ++ x3_1) (wrap64 (x4_1 + 1)) a0_0 a0_1 a0_2 a0_3 a0_4)) else (none)) = some r := by rw [if_pos rfl] at H; exact H
            clear H
            have H := H1
            clear H1
            by_cases c11 : x3_1.size + x3_1.size ≤ 9223372036854775807
            · rw [if_pos c11] at H
              have c11b0 := eq_true c11
              have c11b1 : decide (x3_1.size + x3_1.size ≤ 9223372036854775807) = true := decide_eq_true c11
              try have c11b2 : (9223372036854775807 < x3_1.size + x3_1.size) = False := eq_false (Nat.not_lt.2 c11)
              by_cases c12 : ((x3_1 ++ x3_1).size : Int) > 2097153
              · rw [if_pos c12] at H
                have c12b0 : decide (2097153 < ((x3_1 ++ x3_1).size : Int)) = true := decide_eq_true c12
                have c12b1 : decide (2097153 < (x3_1 ++ x3_1).size) = true := decide_eq_true (by omega)
                have c12b2 : decide (2097153 < ((x3_1.size : Int) + (x3_1.size : Int))) = true := decide_eq_true (by have h_ := c12; simp only [ByteArray.size_append] at h_; omega)
                clear c12
                by_cases c13 : 0 ≤ 2097153
                · rw [if_pos c13] at H
                  have c13b0 := eq_true c13
                  have c13b1 : decide (0 ≤ 2097153) = true := decide_eq_true c13
                  clear c13
                  by_cases c14 : 2097153 ≤ ((x3_1 ++ x3_1).size : Int)
                  · rw [if_pos c14] at H
                    have c14b0 := eq_true c14
                    have c14b1 : decide (2097153 ≤ ((x3_1 ++ x3_1).size : Int)) = true := decide_eq_true c14
                    have H' := Aside0.mk H
                    clear H
                    go_wp2
                    go_roundg kj3
                    case measure => have := HK1.out; have := HJ3.out; omega
                    case rel => exact ⟨((x3_1 ++ x3_1).extract 0 2097153), (wrap64 (x4_1 + 1)), (by first | rfl | (simp; done) | (simp [*]; done)), (by first | rfl | (simp; done) | (simp [*]; done)), H', ⟨by have := HK1.out; have := HJ3.out; omega⟩, ⟨by (with_reducible repeat (first | refine blk_drewN ?_ _ | refine blk_drew ?_ | refine blk_alloc ?_ _)); exact BK146.out⟩, ⟨by repeat (first | (with_reducible first | exact HB.out | apply below_alloc | apply pw_below_drewN | apply below_drew1 | refine below_set ?_ GE146.out) | exact HB.out)⟩⟩
                  · rw [if_neg c14] at H
                    exact absurd H (by simp)
                · rw [if_neg c13] at H
                  exact absurd H (by simp)
              · rw [if_neg c12] at H
                have c12b0 : decide (2097153 < ((x3_1 ++ x3_1).size : Int)) = false := decide_eq_false c12
                have c12b1 : decide (2097153 < (x3_1 ++ x3_1).size) = false := decide_eq_false (by omega)
                have c12b2 : decide (2097153 < ((x3_1.size : Int) + (x3_1.size : Int))) = false := decide_eq_false (by have h_ := c12; simp only [ByteArray.size_append] at h_; omega)
                clear c12
                have H' := Aside0.mk H
                clear H
                go_wp2
                go_roundg kj3
                case measure => have := HK1.out; have := HJ3.out; omega
                case rel => exact ⟨(x3_1 ++ x3_1), (wrap64 (x4_1 + 1)), (by first | rfl | (simp; done) | (simp [*]; done)), (by first | rfl | (simp; done) | (simp [*]; done)), H', ⟨by have := HK1.out; have := HJ3.out; omega⟩, ⟨by (with_reducible repeat (first | refine blk_drewN ?_ _ | refine blk_drew ?_ | refine blk_alloc ?_ _)); exact BK146.out⟩, ⟨by repeat (first | (with_reducible first | exact HB.out | apply below_alloc | apply pw_below_drewN | apply below_drew1 | refine below_set ?_ GE146.out) | exact HB.out)⟩⟩
            · rw [if_neg c11] at H
              exact absurd H (by simp)
          · replace c10 := Bool.eq_false_iff.mpr c10
            subst c10
            have H1 : (some x3_1) = some r := by rw [if_neg (show ¬ (false = true) by decide)] at H; exact H
            clear H
            have H := H1
            clear H1
            obtain rfl := Option.some.inj H
            go_wp2
            go_ret
            exact ⟨by first | rfl | (simp [errW_none, errW_some] <;> rfl) | (simp [*, errW_none, errW_some] <;> rfl), by repeat (first | (with_reducible first | exact HB.out | apply below_alloc | apply pw_below_drewN | apply below_drew1 | refine below_set ?_ GE146.out) | exact HB.out)⟩

/-! ### postbagref10_four: function 40 -/
def postbagref10_four.f (a0 : Int) : Option (ByteArray) := some (strOfNums (([(Int.tmod (wrap64 (Int.tdiv a0 16777216)) 256) % 256, (Int.tmod (wrap64 (Int.tdiv a0 65536)) 256) % 256, (Int.tmod (wrap64 (Int.tdiv a0 256)) 256) % 256, (Int.tmod a0 256) % 256] : List Int)))
set_option maxHeartbeats 8000000 in
set_option maxRecDepth 100000 in
theorem postbagref10_four.calls (a0 : Int) (r : ByteArray) (w : World) (h : postbagref10_four.f a0 = some r) :
    Calls Try.prog 40 #[.int .i64 a0] w fun e w' => e = .returned (.string r) ∧ Below w.heap.size w w' := by
  have HB := Aside0.mk (Below.refl w.heap.size w)
  have H : (some (strOfNums (([(Int.tmod (wrap64 (Int.tdiv a0 16777216)) 256) % 256, (Int.tmod (wrap64 (Int.tdiv a0 65536)) 256) % 256, (Int.tmod (wrap64 (Int.tdiv a0 256)) 256) % 256, (Int.tmod a0 256) % 256] : List Int)))) = some r := h
  clear h
  obtain ⟨y147, hy147⟩ : ∃ y_ : List Int, y_ = (([(Int.tmod (wrap64 (Int.tdiv a0 16777216)) 256) % 256, (Int.tmod (wrap64 (Int.tdiv a0 65536)) 256) % 256, (Int.tmod (wrap64 (Int.tdiv a0 256)) 256) % 256, (Int.tmod a0 256) % 256] : List Int)) := ⟨_, rfl⟩
  replace H : (some (strOfNums y147)) = some r := by first | (rw [hy147]; with_reducible exact H) | (have H2_ := (Option.bind_some _ _).symm.trans H; rw [hy147]; with_reducible exact H2_) | (have H2_ := (Option.bind_some _ _).symm.trans H; with_reducible exact H2_) | with_reducible exact H | (rw [hy147]; exact H) | exact H
  have Ny147 := Aside0.mk hy147
  clear hy147
  obtain rfl := Option.some.inj H
  go_enter Try.func40, Try.ntmps40
  go_wp2_with (first | ((with_reducible refine gate_dst (N := 18) rfl ?_); refine Kd.R_lit (Kd.int .u8) _ 5 ?hg (N := 18) ?hd (xs := ([(Int.tmod (wrap64 (Int.tdiv a0 16777216)) 256) % 256, (Int.tmod (wrap64 (Int.tdiv a0 65536)) 256) % 256, (Int.tmod (wrap64 (Int.tdiv a0 256)) 256) % 256, (Int.tmod a0 256) % 256] : List Int)) (inner := [.int .u8 ((Int.tmod (wrap64 (Int.tdiv a0 16777216)) 256) % 256), .int .u8 ((Int.tmod (wrap64 (Int.tdiv a0 65536)) 256) % 256), .int .u8 ((Int.tmod (wrap64 (Int.tdiv a0 256)) 256) % 256), .int .u8 ((Int.tmod a0 256) % 256)]) (ok := fun _ => True) (okp := fun _ => True) ?hr ?hp (fun _ hk => hk) trivial (Below.refl _ _) (Nat.le_refl _) (by simp) ?_; (case hd => rfl); (case hg => rfl); (case hr => first | (go_simp; done) | (go_simp; rfl)); (case hp => exact (Reps.one (show Kd.M (Kd.int .u8) _ _ _ ((Int.tmod (wrap64 (Int.tdiv a0 16777216)) 256) % 256) [.int .u8 ((Int.tmod (wrap64 (Int.tdiv a0 16777216)) 256) % 256)] from rfl) (Reps.one (show Kd.M (Kd.int .u8) _ _ _ ((Int.tmod (wrap64 (Int.tdiv a0 65536)) 256) % 256) [.int .u8 ((Int.tmod (wrap64 (Int.tdiv a0 65536)) 256) % 256)] from rfl) (Reps.one (show Kd.M (Kd.int .u8) _ _ _ ((Int.tmod (wrap64 (Int.tdiv a0 256)) 256) % 256) [.int .u8 ((Int.tmod (wrap64 (Int.tdiv a0 256)) 256) % 256)] from rfl) (Reps.one (show Kd.M (Kd.int .u8) _ _ _ ((Int.tmod a0 256) % 256) [.int .u8 ((Int.tmod a0 256) % 256)] from rfl) (Reps.none _ _)))))); intro v148 w2 ho3 hb hg_ hnew_; clear hg_ hnew_; (first | rw [← Ny147.out] at ho3 | (simp only [Int.reduceToNat] at ho3; rw [← Ny147.out] at ho3)); have n0_ := Aside0.mk (Kd.R_lower ho3 (below_size (by repeat (first | (with_reducible first | exact HB.out | apply below_alloc | apply pw_below_drewN | apply below_drew1) | exact HB.out)))); have n1_ := Aside0.mk (below_step (by repeat (first | (with_reducible first | exact HB.out | apply below_alloc | apply pw_below_drewN | apply below_drew1) | exact HB.out)) hb); clear HB; have HO149 := n0_; have HB := n1_; clear n0_ n1_; clear hb ho3; have hcv4 := own_string (P := Try.prog) Try.underlying56 Try.underlying5 Try.underlying9 (Kd.own_of_R HO149.out)))
  go_ret
  exact ⟨by first | rfl | (simp [errW_none, errW_some] <;> rfl) | (simp [*, errW_none, errW_some] <;> rfl), by repeat (first | (with_reducible first | exact HB.out | apply below_alloc | apply pw_below_drewN | apply below_drew1) | exact HB.out)⟩

end Go.Proofs.Ytcndhgpaoihblaa.Fr
