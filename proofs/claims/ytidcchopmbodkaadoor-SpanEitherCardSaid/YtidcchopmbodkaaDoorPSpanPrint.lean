/- Printed by wip/myprint.py of this session over the kit's print.py: the contract of a Go function (what a plain Lean function says, the call does). -/
import Derived.Test.YtidcchopmbodkaaDoorSp0
import Derived.Test.YtidcchopmbodkaaDoorSp1
import Derived.Test.YtidcchopmbodkaaDoorPSpanIsRange
import Derived.Test.YtidcchopmbodkaaDoorWd
namespace Go.Proofs.YtidcchopmbodkaaDoor.Sp
open Go.RowKit Go.Proofs.YtidcchopmbodkaaDoorW.PrintWords Go.Proofs.YtidcchopmbodkaaDoorW.PrintLast Go.Proofs.YtidcchopmbodkaaDoorW.PrintMore
attribute [local go_sem] max2_int min2_int max_two min_two max_three min_three max_four min_four   -- for this text's walks alone
set_option linter.unusedVariables false
set_option linter.unusedSimpArgs false
/-! ### span_Print: function 36 -/
def span_Print.l0 : Nat → List ByteArray → List (S28) → Int → Int → Option (ByteArray × Int)
 | 0, _, _, _, _ => none
 | k + 1, x4, x10, x11, x12 => if x12 < x11 then (if 0 ≤ x12 then (if x12 < (x10.length : Int) then ((span_isRange.f ((rd_T28 x10 x12).f0) ((rd_T28 x10 x12).f1)).bind fun t150 => (if t150 = true then (if ((rd_T28 x10 x12).f0) = ((rd_T28 x10 x12).f1) then ((span_word.f ((rd_T28 x10 x12).f0)).bind fun t151 => (if x4.length < 8796093022208 then (span_Print.l0 k (x4 ++ [t151]) x10 x11 (wrap64 (x12 + 1))) else (none))) else ((span_word.f ((rd_T28 x10 x12).f0)).bind fun t155 => (if t155.size + 1 ≤ 9223372036854775807 then ((span_word.f ((rd_T28 x10 x12).f1)).bind fun t156 => (if (t155 ++ (⟨#[58]⟩ : ByteArray)).size + t156.size ≤ 9223372036854775807 then (if x4.length < 8796093022208 then (span_Print.l0 k (x4 ++ [(t155 ++ (⟨#[58]⟩ : ByteArray)) ++ t156]) x10 x11 (wrap64 (x12 + 1))) else (none)) else (none))) else (none)))) else (some ((⟨#[]⟩ : ByteArray), 40)))) else (none)) else (none)) else (if (x4.length : Int) = 0 then (some ((⟨#[]⟩ : ByteArray), 40)) else ((strings_Join.f x4 (⟨#[44]⟩ : ByteArray)).bind fun t147 => (some (t147, 0))))
def span_Print.f (k : Nat) (l0 : List (S28)) : Option (ByteArray × Int) := if (l0.length : Int) > 64 then (some ((⟨#[]⟩ : ByteArray), 41)) else (span_Print.l0 k ([] : List ByteArray) l0 (l0.length : Int) 0)
theorem span_Print.mono_l : ∀ k, (∀ y0 y1 y2 y3, LeO (span_Print.l0 k y0 y1 y2 y3) (span_Print.l0 (k + 1) y0 y1 y2 y3))
 | 0 => fun _ _ _ _ r h => by simp [span_Print.l0] at h
 | k + 1 => by
  have ih0 := span_Print.mono_l k
  ·intro y0 y1 y2 y3
   unfold span_Print.l0
   repeat' first
   | (with_reducible exact ih0 _ _ _ _)
   | (with_reducible exact LeO.refl _)
   | (with_reducible exact LeO.none _)
   | (with_reducible refine LeO.ite ?_ ?_)
   | (with_reducible refine LeO.bind ?_ (fun _ => ?_))
   | exact ih0 _ _ _ _
   | exact LeO.none _
   | refine LeO.ite ?_ ?_
   | refine LeO.bind ?_ (fun _ => ?_)
theorem span_Print.mono : ∀ a0 k, LeO (span_Print.f k a0) (span_Print.f (k + 1) a0) := by
 intro a0 k
 have ih0 := span_Print.mono_l k
 unfold span_Print.f
 repeat' first
   | (with_reducible exact ih0 _ _ _ _)
   | (with_reducible exact LeO.refl _)
   | (with_reducible exact LeO.none _)
   | (with_reducible refine LeO.ite ?_ ?_)
   | (with_reducible refine LeO.bind ?_ (fun _ => ?_))
   | exact ih0 _ _ _ _
   | exact LeO.none _
   | refine LeO.ite ?_ ?_
   | refine LeO.bind ?_ (fun _ => ?_)
def span_Print.T11 : Bool × List (List Nat × List Nat) := (true, [([], []), ([], []), ([1], [1]), ([2], [2]), ([3], [3]), ([], []), ([5], [5]), ([6, 3], [6]), ([4, 7], [4, 7]), ([8], [8]), ([0, 9, 7], [0, 9]), ([10, 10, 0, 1, 2, 3, 4, 5, 6, 7, 8, 9, 10], [0, 10])])
def span_Print.B11 : List Nat := [0, 0, 2, 6, 14, 0, 32, 110, 254, 510, 1023, 2047]
theorem span_Print.tab11 : rtab .any (opsOf Tryd.f36 11) = span_Print.T11 := by kernel_rfl
theorem span_Print.bits11 : waitsOk span_Print.T11.2 span_Print.B11 = true := by kernel_rfl
set_option maxHeartbeats 8000000 in
set_option maxRecDepth 100000 in
theorem span_Print.calls (k : Nat) (A0 : Option Addr) (c0 : Nat) (l0 : List (S28)) (r1 : ByteArray) (r2 : Int) (w : World) (hr0 : Kd.C k28 w A0 l0.length l0) (hc0 : l0.length ≤ c0) (h : span_Print.f k l0 = some (r1, r2)) (hL_ : Laid w) :
  Calls Tryd.prog 36 #[.slice A0 l0.length c0] w fun e w' => e = .returned (.tuple #[.string r1, .int .i64 r2]) ∧ Below w.heap.size w w' := by
 have HL_ := Aside0.mk hL_
 clear hL_
 have hu28 := Tryd.underlying28
 have HR0 := Aside0.mk hr0
 have HC0 := Aside0.mk hc0
 clear hr0 hc0
 have HB := Aside0.mk (Below.refl w.heap.size w)
 have H : (if (l0.length : Int) > 64 then (some ((⟨#[]⟩ : ByteArray), 41)) else (span_Print.l0 k ([] : List ByteArray) l0 (l0.length : Int) 0)) = some (r1, r2) := h
 clear h
 by_cases c2 : (l0.length : Int) > 64
 ·rw [if_pos c2] at H
  have c2b0 : decide (64 < (l0.length : Int)) = true := decide_eq_true c2
  have c2b1 : decide (64 < l0.length) = true := decide_eq_true (by omega)
  clear c2
  simp only [Option.some.injEq, Prod.mk.injEq] at H
  obtain ⟨rfl, rfl⟩ := H
  go_enter Tryd.func36, Tryd.ntmps36
  go_wp2
  go_ret2
  exact ⟨by first | rfl | (simp [errW_none, errW_some] <;> rfl) | (simp [*, errW_none, errW_some] <;> rfl), by repeat (first | (with_reducible first | exact HB.out | apply below_alloc | apply pw_below_drewN | apply below_drew1) | exact HB.out)⟩
 ·rw [if_neg c2] at H
  have c2b0 : decide (64 < (l0.length : Int)) = false := decide_eq_false c2
  have c2b1 : decide (64 < l0.length) = false := decide_eq_false (by omega)
  clear c2
  have H' := Aside0.mk H
  clear H
  go_enter Tryd.func36, Tryd.ntmps36
  go_wp2
  go_loopg [4, 12] k (fun kq v4 v12 w' => ∃ (x4_1 : List ByteArray) (x12_1 : Int), v12 = .int .i64 x12_1 ∧ Aside0 (span_Print.l0 kq x4_1 l0 (l0.length : Int) x12_1 = some (r1, r2)) ∧ Aside0 (kq ≤ k) ∧ Aside0 (Kd.R Kd.string 9 w' w.heap.size (fun _ => True) v4 x4_1) ∧ Aside0 (Below w.heap.size w w'))
  case atStart => exact ⟨(([] : List ByteArray)), (0), (by first | rfl | (simp; done) | (simp [*]; done)), H', ⟨Nat.le_refl _⟩, ⟨by first | exact Kd.R_nil _ _ _ _ _ | exact Kd.N_nil _ _ _ _ _ | exact Kd.V_nil _ _ _ _ _ | exact Kd.Q_nil _ _ _ _ _ | exact Kd.S_nil _ _ _ _ _⟩, ⟨by repeat (first | (with_reducible first | exact HB.out | apply below_alloc | apply pw_below_drewN | apply below_drew1) | exact HB.out)⟩⟩
  case round =>
   clear H'
   try clear c2
   try clear c2b0
   try clear c2b1
   try clear p2
   obtain ⟨x4_1, x12_1, rfl, HA, HK1, HO_4, HB⟩ := hrel
   cases gk with
   | zero => exact absurd HA.out (by simp [span_Print.l0])
   | succ k1 =>
    have H := HA.out
    clear HA
    simp only [span_Print.l0] at H
    by_cases c3 : x12_1 < (l0.length : Int)
    ·rw [if_pos c3] at H
     have c3b0 : decide (x12_1 < (l0.length : Int)) = true := decide_eq_true c3
     clear c3
     by_cases c4 : 0 ≤ x12_1
     ·rw [if_pos c4] at H
      have c4b0 : decide (0 ≤ x12_1) = true := decide_eq_true c4
      clear c4
      by_cases c5 : x12_1 < (l0.length : Int)
      ·rw [if_pos c5] at H
       have c5b0 : decide (x12_1 < (l0.length : Int)) = true := decide_eq_true c5
       clear c5
       replace H := Option.bind_eq_some_iff.mp H
       obtain ⟨t150, A60, H⟩ := H
       replace H : (if t150 = true then (if ((rd_T28 l0 x12_1).f0) = ((rd_T28 l0 x12_1).f1) then ((span_word.f ((rd_T28 l0 x12_1).f0)).bind fun t151 => (if x4_1.length < 8796093022208 then (span_Print.l0 k1 (x4_1 ++ [t151]) l0 (l0.length : Int) (wrap64 (x12_1 + 1))) else (none))) else ((span_word.f ((rd_T28 l0 x12_1).f0)).bind fun t155 => (if t155.size + 1 ≤ 9223372036854775807 then ((span_word.f ((rd_T28 l0 x12_1).f1)).bind fun t156 => (if (t155 ++ (⟨#[58]⟩ : ByteArray)).size + t156.size ≤ 9223372036854775807 then (if x4_1.length < 8796093022208 then (span_Print.l0 k1 (x4_1 ++ [(t155 ++ (⟨#[58]⟩ : ByteArray)) ++ t156]) l0 (l0.length : Int) (wrap64 (x12_1 + 1))) else (none)) else (none))) else (none)))) else (some ((⟨#[]⟩ : ByteArray), 40))) = some (r1, r2) := H
       have A6 := Aside0.mk A60
       clear A60
       by_cases c7 : t150 = true
       ·subst c7
        have H1 : (if ((rd_T28 l0 x12_1).f0) = ((rd_T28 l0 x12_1).f1) then ((span_word.f ((rd_T28 l0 x12_1).f0)).bind fun t151 => (if x4_1.length < 8796093022208 then (span_Print.l0 k1 (x4_1 ++ [t151]) l0 (l0.length : Int) (wrap64 (x12_1 + 1))) else (none))) else ((span_word.f ((rd_T28 l0 x12_1).f0)).bind fun t155 => (if t155.size + 1 ≤ 9223372036854775807 then ((span_word.f ((rd_T28 l0 x12_1).f1)).bind fun t156 => (if (t155 ++ (⟨#[58]⟩ : ByteArray)).size + t156.size ≤ 9223372036854775807 then (if x4_1.length < 8796093022208 then (span_Print.l0 k1 (x4_1 ++ [(t155 ++ (⟨#[58]⟩ : ByteArray)) ++ t156]) l0 (l0.length : Int) (wrap64 (x12_1 + 1))) else (none)) else (none))) else (none)))) = some (r1, r2) := by rw [if_pos rfl] at H; exact H
        clear H
        have H := H1
        clear H1
        by_cases c8 : ((rd_T28 l0 x12_1).f0) = ((rd_T28 l0 x12_1).f1)
        ·rw [if_pos c8] at H
         have c8b0 : (((rd_T28 l0 x12_1).f0) == ((rd_T28 l0 x12_1).f1)) = true := beq_iff_eq.mpr c8
         have c8b1 : (((rd_T28 l0 x12_1).f0) != ((rd_T28 l0 x12_1).f1)) = false := bne_eq_false_iff_eq.mpr c8
         clear c8
         replace H := Option.bind_eq_some_iff.mp H
         obtain ⟨t151, A90, H⟩ := H
         replace H : (if x4_1.length < 8796093022208 then (span_Print.l0 k1 (x4_1 ++ [t151]) l0 (l0.length : Int) (wrap64 (x12_1 + 1))) else (none)) = some (r1, r2) := H
         have A9 := Aside0.mk A90
         clear A90
         by_cases c10 : x4_1.length < 8796093022208
         ·rw [if_pos c10] at H
          have LMc10 := Aside0.mk c10
          clear c10
          obtain ⟨y152, hy152⟩ : ∃ y_ : List ByteArray, y_ = (x4_1 ++ [t151]) := ⟨_, rfl⟩
          replace H : (span_Print.l0 k1 y152 l0 (l0.length : Int) (wrap64 (x12_1 + 1))) = some (r1, r2) := by first | (rw [hy152]; with_reducible exact H) | (have H2_ := (Option.bind_some _ _).symm.trans H; rw [hy152]; with_reducible exact H2_) | (have H2_ := (Option.bind_some _ _).symm.trans H; with_reducible exact H2_) | with_reducible exact H | (rw [hy152]; exact H) | exact H
          have Ny152 := Aside0.mk hy152
          clear hy152
          have H' := Aside0.mk H
          clear H
          have p148 : 0 ≤ (x12_1 : Int) := of_decide_eq_true (by first | (with_reducible assumption) | assumption)
          have q148 : x12_1 < (l0.length : Int) := of_decide_eq_true (by first | (with_reducible assumption) | assumption)
          obtain ⟨ad148, e148, hx148_0, hx148_1⟩ := at_T28 HR0.out x12_1 p148 q148
          cases e148
          replace hx148_0 := (HB.out.cell (World.block_lt_of_cell? w _ hx148_0)).trans hx148_0
          replace hx148_1 := (HB.out.cell (World.block_lt_of_cell? w _ hx148_1)).trans hx148_1
          replace p148 := eq_true p148
          replace q148 := eq_true q148
          go_wp2_with (first | ((with_reducible refine gate_dst (N := 6) rfl ?_); refine box_event ?hg (N := 6) ?hd (cs := #[.int .i64 0, .int .i64 0]) (t := 28) ?hr ?_; (case hd => rfl); (case hg => rfl); (case hr => first | (go_simp; done) | (go_simp; rfl)); intro gb149 hg w11 hbox hb; have n0_ := Aside0.mk (Kd.R_below (by (with_reducible repeat (first | apply Kd.R_alloc | apply Kd.R_drewN | apply Kd.R_drew)); exact HO_4.out) hb); have n1_ := Aside0.mk (below_step (by repeat (first | (with_reducible first | exact HB.out | apply below_alloc | apply pw_below_drewN | apply below_drew1) | exact HB.out)) hb); have n2_ := Aside0.mk (hbox); have n3_ := Aside0.mk ((by rw [hg]; exact (below_size (by repeat (first | (with_reducible first | exact HB.out | apply below_alloc | apply pw_below_drewN | apply below_drew1) | exact HB.out))) : w.heap.size ≤ gb149)); have n4_ := Aside0.mk ((by rw [hg]; exact (below_size (by repeat (first | (with_reducible first | exact HB.out | apply below_alloc | apply pw_below_drewN | apply below_drew1) | exact HB.out))) : w.heap.size ≤ gb149)); clear HO_4; clear HB; have HO_4 := n0_; have HB := n1_; have BK149 := n2_; have GW149 := n3_; have GE149 := n4_; clear n0_ n1_ n2_ n3_ n4_; clear hb hbox hg; have hcz12_0 : w11.cell? ⟨gb149, 0, none⟩ = some (.int .i64 0) := (blk_cell BK149.out 0).trans rfl; have hcz12_1 : w11.cell? ⟨gb149, 1, none⟩ = some (.int .i64 0) := (blk_cell BK149.out 1).trans rfl; have hfz12_0 := blk_frozen BK149.out 0; have hfz12_1 := blk_frozen BK149.out 1) | ((with_reducible refine gate_callee (f := 49) rfl ?_); refine goesL_ (some 17) rfl rfl Tryd.func49 (by kernel_rfl) rfl #[.agg #[.int .i64 ((rd_T28 l0 x12_1).f0), .int .i64 ((rd_T28 l0 x12_1).f1)]] rfl (by (try simp only [List.map_toArray, List.map_cons, List.map_nil]); first | done | rfl | (simp only [List.length_drop, List.length_take]; rfl)) ?_; (with_reducible refine (span_isRange.calls ((rd_T28 l0 x12_1).f0) ((rd_T28 l0 x12_1).f1) true _ A6.out).mono ?_); rintro e w13 ⟨rfl, hb⟩; refine ⟨_, rfl, ?_⟩; have n0_ := Aside0.mk (Kd.R_below (by (with_reducible repeat (first | apply Kd.R_alloc | apply Kd.R_drewN | apply Kd.R_drew)); exact (Kd.R_mono (Kd.R_far (p := ⟨gb149, 1, none⟩) (Kd.R_far (p := ⟨gb149, 0, none⟩) (Kd.R_types HO_4.out BK149.out (by decide)) (fun _ hk => hk.2) (.int .i64 ((rd_T28 l0 x12_1).f0))) (fun _ hk => hk.2) (.int .i64 ((rd_T28 l0 x12_1).f1))) (fun _ h_ => h_.1))) hb); have n1_ := Aside0.mk (blk_below (g := gb149) (o := .cells #[.int .i64 ((rd_T28 l0 x12_1).f0), .int .i64 ((rd_T28 l0 x12_1).f1)] 28 (0, 0)) (by (with_reducible repeat (first | refine blk_drewN ?_ _ | refine blk_drew ?_ | refine blk_alloc ?_ _)); refine blk_put (cs := #[.int .i64 ((rd_T28 l0 x12_1).f0), .int .i64 0]) ?_ 1 _ rfl; (with_reducible repeat (first | refine blk_drewN ?_ _ | refine blk_drew ?_ | refine blk_alloc ?_ _)); refine blk_put (cs := #[.int .i64 0, .int .i64 0]) ?_ 0 _ rfl; (with_reducible repeat (first | refine blk_drewN ?_ _ | refine blk_drew ?_ | refine blk_alloc ?_ _)); exact BK149.out) hb); have n2_ := Aside0.mk (below_step (by repeat (first | (with_reducible first | exact HB.out | apply below_alloc | apply pw_below_drewN | apply below_drew1 | refine below_set ?_ GE149.out) | exact HB.out)) hb); clear HO_4; clear BK149; clear HB; have HO_4 := n0_; have BK149 := n1_; have HB := n2_; clear n0_ n1_ n2_; (try clear hb); (try clear hb2); (try clear hk); (try clear hi); have hcz14_0 : w13.cell? ⟨gb149, 0, none⟩ = some (.int .i64 ((rd_T28 l0 x12_1).f0)) := (blk_cell BK149.out 0).trans rfl; have hcz14_1 : w13.cell? ⟨gb149, 1, none⟩ = some (.int .i64 ((rd_T28 l0 x12_1).f1)) := (blk_cell BK149.out 1).trans rfl; have hfz14_0 := blk_frozen BK149.out 0; have hfz14_1 := blk_frozen BK149.out 1) | ((with_reducible refine gate_callee (f := 56) rfl ?_); refine goesL_ (some 27) rfl rfl Tryd.func56 (by kernel_rfl) rfl #[.int .i64 ((rd_T28 l0 x12_1).f0)] rfl (by (try simp only [List.map_toArray, List.map_cons, List.map_nil]); first | done | rfl | (simp only [List.length_drop, List.length_take]; rfl)) ?_; (with_reducible refine (span_word.calls ((rd_T28 l0 x12_1).f0) t151 _ A9.out (by first | exact laid_below HL_.out (by repeat (first | (with_reducible first | exact HB.out | apply below_alloc | apply pw_below_drewN | apply below_drew1) | exact HB.out)) | exact laid_drawn HL_.out (by repeat (first | exact Drawn0.refl _ | apply Drawn0.step)))).mono ?_); rintro e w15 ⟨rfl, hb⟩; refine ⟨_, rfl, ?_⟩; have n0_ := Aside0.mk (Kd.R_below (by (with_reducible repeat (first | apply Kd.R_alloc | apply Kd.R_drewN | apply Kd.R_drew)); exact HO_4.out) hb); have n1_ := Aside0.mk (blk_below (g := gb149) (o := .cells #[.int .i64 ((rd_T28 l0 x12_1).f0), .int .i64 ((rd_T28 l0 x12_1).f1)] 28 (0, 0)) (by (with_reducible repeat (first | refine blk_drewN ?_ _ | refine blk_drew ?_ | refine blk_alloc ?_ _)); exact BK149.out) hb); have n2_ := Aside0.mk (below_step (by repeat (first | (with_reducible first | exact HB.out | apply below_alloc | apply pw_below_drewN | apply below_drew1 | refine below_set ?_ GE149.out) | exact HB.out)) hb); clear HO_4; clear BK149; clear HB; have HO_4 := n0_; have BK149 := n1_; have HB := n2_; clear n0_ n1_ n2_; (try clear hb); (try clear hb2); (try clear hk); (try clear hi)) | ((with_reducible refine gate_builtin (b := .append) (xs := #[.tmp 24, .tmp 28]) rfl ?_); at_builtin; refine Kd.R_append Kd.string (w0 := w) w.heap.size rfl (.tmp 24) (.tmp 28) 81 9 (.string ⟨#[]⟩) 16 rfl Tryd.underlying81 info9 rfl (by decide) (by omega) u4 x4_1 t151 [.string t151] (fun _ => True) (fun _ => False) rfl rfl ?aP (fun _ hk => hk.elim) ?aF ?aO ?aB ?aS ?aL ?_; (case aP => exact rfl); (case aB => exact (by repeat (first | (with_reducible first | exact HB.out | apply below_alloc | apply pw_below_drewN | apply below_drew1 | refine below_set ?_ GE149.out) | exact HB.out))); (case aF => exact (fun _ _ => trivial)); (case aO => exact (by (with_reducible repeat (first | apply Kd.R_alloc | apply Kd.R_drewN | apply Kd.R_drew)); exact HO_4.out)); (case aS => exact (below_size (by repeat (first | (with_reducible first | exact HB.out | apply below_alloc | apply pw_below_drewN | apply below_drew1 | refine below_set ?_ GE149.out) | exact HB.out)))); (case aL => have := LMc10.out; omega); intro v153 w16 ho hb hg hat; rw [← Ny152.out] at ho; have n0_ := Aside0.mk (blk_grown (g := gb149) (o := .cells #[.int .i64 ((rd_T28 l0 x12_1).f0), .int .i64 ((rd_T28 l0 x12_1).f1)] 28 (0, 0)) (by (with_reducible repeat (first | refine blk_drewN ?_ _ | refine blk_drew ?_ | refine blk_alloc ?_ _)); exact BK149.out) hg (Kd.R_ne HO_4.out BK149.out (by decide))); have n1_ := Aside0.mk (hb); have n2_ := Aside0.mk (ho); clear BK149; clear HB; clear HO_4; have BK149 := n0_; have HB := n1_; have HO154 := n2_; clear n0_ n1_ n2_; clear ho hb hg hat))
          go_roundg k1
          case measure => have := HK1.out; omega
          case rel => exact ⟨(y152), (wrap64 (x12_1 + 1)), (by first | rfl | (simp; done) | (simp [*]; done)), H', ⟨by have := HK1.out; omega⟩, ⟨by (with_reducible repeat (first | apply Kd.R_alloc | apply Kd.R_drewN | apply Kd.R_drew)); exact HO154.out⟩, ⟨by repeat (first | (with_reducible first | exact HB.out | apply below_alloc | apply pw_below_drewN | apply below_drew1 | refine below_set ?_ GE149.out) | exact HB.out)⟩⟩
         ·rw [if_neg c10] at H
          exact absurd H (by simp)
        ·rw [if_neg c8] at H
         have c8b0 : (((rd_T28 l0 x12_1).f0) == ((rd_T28 l0 x12_1).f1)) = false := beq_eq_false_iff_ne.mpr c8
         have c8b1 : (((rd_T28 l0 x12_1).f0) != ((rd_T28 l0 x12_1).f1)) = true := bne_iff_ne.mpr c8
         replace H := Option.bind_eq_some_iff.mp H
         obtain ⟨t155, A170, H⟩ := H
         replace H : (if t155.size + 1 ≤ 9223372036854775807 then ((span_word.f ((rd_T28 l0 x12_1).f1)).bind fun t156 => (if (t155 ++ (⟨#[58]⟩ : ByteArray)).size + t156.size ≤ 9223372036854775807 then (if x4_1.length < 8796093022208 then (span_Print.l0 k1 (x4_1 ++ [(t155 ++ (⟨#[58]⟩ : ByteArray)) ++ t156]) l0 (l0.length : Int) (wrap64 (x12_1 + 1))) else (none)) else (none))) else (none)) = some (r1, r2) := H
         have A17 := Aside0.mk A170
         clear A170
         by_cases c18 : t155.size + 1 ≤ 9223372036854775807
         ·rw [if_pos c18] at H
          have c18b0 := eq_true c18
          have c18b1 : decide (t155.size + 1 ≤ 9223372036854775807) = true := decide_eq_true c18
          try have c18b2 : (9223372036854775807 < t155.size + 1) = False := eq_false (Nat.not_lt.2 c18)
          replace H := Option.bind_eq_some_iff.mp H
          obtain ⟨t156, A190, H⟩ := H
          replace H : (if (t155 ++ (⟨#[58]⟩ : ByteArray)).size + t156.size ≤ 9223372036854775807 then (if x4_1.length < 8796093022208 then (span_Print.l0 k1 (x4_1 ++ [(t155 ++ (⟨#[58]⟩ : ByteArray)) ++ t156]) l0 (l0.length : Int) (wrap64 (x12_1 + 1))) else (none)) else (none)) = some (r1, r2) := H
          have A19 := Aside0.mk A190
          clear A190
          by_cases c20 : (t155 ++ (⟨#[58]⟩ : ByteArray)).size + t156.size ≤ 9223372036854775807
          ·rw [if_pos c20] at H
           have c20b0 := eq_true c20
           have c20b1 : decide ((t155 ++ (⟨#[58]⟩ : ByteArray)).size + t156.size ≤ 9223372036854775807) = true := decide_eq_true c20
           try have c20b2 : (9223372036854775807 < (t155 ++ (⟨#[58]⟩ : ByteArray)).size + t156.size) = False := eq_false (Nat.not_lt.2 c20)
           try have c20b7 : (9223372036854775807 < t155.size + 1 + t156.size) = False := eq_false (by have h_ := c20; have e0_ : (⟨#[58]⟩ : ByteArray).size = 1 := rfl; (try dsimp only at e0_); simp only [ByteArray.size_append, ByteArray.size_extract] at h_; first | exact Nat.not_lt.2 h_ | omega | (simp at h_ ⊢; omega))
           try have c20b3 : (9223372036854775807 < t155.size + (⟨#[58]⟩ : ByteArray).size + t156.size) = False := eq_false (by have h_ := c20; simp only [ByteArray.size_append] at h_; omega)
           by_cases c21 : x4_1.length < 8796093022208
           ·rw [if_pos c21] at H
            have LMc21 := Aside0.mk c21
            clear c21
            obtain ⟨y157, hy157⟩ : ∃ y_ : List ByteArray, y_ = (x4_1 ++ [(t155 ++ (⟨#[58]⟩ : ByteArray)) ++ t156]) := ⟨_, rfl⟩
            replace H : (span_Print.l0 k1 y157 l0 (l0.length : Int) (wrap64 (x12_1 + 1))) = some (r1, r2) := by first | (rw [hy157]; with_reducible exact H) | (have H2_ := (Option.bind_some _ _).symm.trans H; rw [hy157]; with_reducible exact H2_) | (have H2_ := (Option.bind_some _ _).symm.trans H; with_reducible exact H2_) | with_reducible exact H | (rw [hy157]; exact H) | exact H
            have Ny157 := Aside0.mk hy157
            clear hy157
            have H' := Aside0.mk H
            clear H
            have p148 : 0 ≤ (x12_1 : Int) := of_decide_eq_true (by first | (with_reducible assumption) | assumption)
            have q148 : x12_1 < (l0.length : Int) := of_decide_eq_true (by first | (with_reducible assumption) | assumption)
            obtain ⟨ad148, e148, hx148_0, hx148_1⟩ := at_T28 HR0.out x12_1 p148 q148
            cases e148
            replace hx148_0 := (HB.out.cell (World.block_lt_of_cell? w _ hx148_0)).trans hx148_0
            replace hx148_1 := (HB.out.cell (World.block_lt_of_cell? w _ hx148_1)).trans hx148_1
            replace p148 := eq_true p148
            replace q148 := eq_true q148
            try go_wp2_with (first | ((with_reducible refine gate_dst (N := 6) rfl ?_); refine box_event ?hg (N := 6) ?hd (cs := #[.int .i64 0, .int .i64 0]) (t := 28) ?hr ?_; (case hd => rfl); (case hg => rfl); (case hr => first | (go_simp; done) | (go_simp; rfl)); intro gb149 hg w22 hbox hb; have n0_ := Aside0.mk (Kd.R_below (by (with_reducible repeat (first | apply Kd.R_alloc | apply Kd.R_drewN | apply Kd.R_drew)); exact HO_4.out) hb); have n1_ := Aside0.mk (below_step (by repeat (first | (with_reducible first | exact HB.out | apply below_alloc | apply pw_below_drewN | apply below_drew1) | exact HB.out)) hb); have n2_ := Aside0.mk (hbox); have n3_ := Aside0.mk ((by rw [hg]; exact (below_size (by repeat (first | (with_reducible first | exact HB.out | apply below_alloc | apply pw_below_drewN | apply below_drew1) | exact HB.out))) : w.heap.size ≤ gb149)); have n4_ := Aside0.mk ((by rw [hg]; exact (below_size (by repeat (first | (with_reducible first | exact HB.out | apply below_alloc | apply pw_below_drewN | apply below_drew1) | exact HB.out))) : w.heap.size ≤ gb149)); clear HO_4; clear HB; have HO_4 := n0_; have HB := n1_; have BK149 := n2_; have GW149 := n3_; have GE149 := n4_; clear n0_ n1_ n2_ n3_ n4_; clear hb hbox hg; have hcz23_0 : w22.cell? ⟨gb149, 0, none⟩ = some (.int .i64 0) := (blk_cell BK149.out 0).trans rfl; have hcz23_1 : w22.cell? ⟨gb149, 1, none⟩ = some (.int .i64 0) := (blk_cell BK149.out 1).trans rfl; have hfz23_0 := blk_frozen BK149.out 0; have hfz23_1 := blk_frozen BK149.out 1) | ((with_reducible refine gate_callee (f := 49) rfl ?_); refine goesL_ (some 17) rfl rfl Tryd.func49 (by kernel_rfl) rfl #[.agg #[.int .i64 ((rd_T28 l0 x12_1).f0), .int .i64 ((rd_T28 l0 x12_1).f1)]] rfl (by (try simp only [List.map_toArray, List.map_cons, List.map_nil]); first | done | rfl | (simp only [List.length_drop, List.length_take]; rfl)) ?_; (with_reducible refine (span_isRange.calls ((rd_T28 l0 x12_1).f0) ((rd_T28 l0 x12_1).f1) true _ A6.out).mono ?_); rintro e w24 ⟨rfl, hb⟩; refine ⟨_, rfl, ?_⟩; have n0_ := Aside0.mk (Kd.R_below (by (with_reducible repeat (first | apply Kd.R_alloc | apply Kd.R_drewN | apply Kd.R_drew)); exact (Kd.R_mono (Kd.R_far (p := ⟨gb149, 1, none⟩) (Kd.R_far (p := ⟨gb149, 0, none⟩) (Kd.R_types HO_4.out BK149.out (by decide)) (fun _ hk => hk.2) (.int .i64 ((rd_T28 l0 x12_1).f0))) (fun _ hk => hk.2) (.int .i64 ((rd_T28 l0 x12_1).f1))) (fun _ h_ => h_.1))) hb); have n1_ := Aside0.mk (blk_below (g := gb149) (o := .cells #[.int .i64 ((rd_T28 l0 x12_1).f0), .int .i64 ((rd_T28 l0 x12_1).f1)] 28 (0, 0)) (by (with_reducible repeat (first | refine blk_drewN ?_ _ | refine blk_drew ?_ | refine blk_alloc ?_ _)); refine blk_put (cs := #[.int .i64 ((rd_T28 l0 x12_1).f0), .int .i64 0]) ?_ 1 _ rfl; (with_reducible repeat (first | refine blk_drewN ?_ _ | refine blk_drew ?_ | refine blk_alloc ?_ _)); refine blk_put (cs := #[.int .i64 0, .int .i64 0]) ?_ 0 _ rfl; (with_reducible repeat (first | refine blk_drewN ?_ _ | refine blk_drew ?_ | refine blk_alloc ?_ _)); exact BK149.out) hb); have n2_ := Aside0.mk (below_step (by repeat (first | (with_reducible first | exact HB.out | apply below_alloc | apply pw_below_drewN | apply below_drew1 | refine below_set ?_ GE149.out) | exact HB.out)) hb); clear HO_4; clear BK149; clear HB; have HO_4 := n0_; have BK149 := n1_; have HB := n2_; clear n0_ n1_ n2_; (try clear hb); (try clear hb2); (try clear hk); (try clear hi); have hcz25_0 : w24.cell? ⟨gb149, 0, none⟩ = some (.int .i64 ((rd_T28 l0 x12_1).f0)) := (blk_cell BK149.out 0).trans rfl; have hcz25_1 : w24.cell? ⟨gb149, 1, none⟩ = some (.int .i64 ((rd_T28 l0 x12_1).f1)) := (blk_cell BK149.out 1).trans rfl; have hfz25_0 := blk_frozen BK149.out 0; have hfz25_1 := blk_frozen BK149.out 1))
            have n0_ := Aside0.mk (Kd.R_drew HO_4.out)
            have n1_ := Aside0.mk (blk_drew BK149.out)
            have n2_ := Aside0.mk (below_drew1 HB.out)
            clear HO_4
            clear BK149
            clear HB
            have HO_4 := n0_
            have BK149 := n1_
            have HB := n2_
            clear n0_ n1_ n2_
            refine start_ (n := 12) (S := fun w' => w'.cell? ⟨gb149, 0, none⟩ = some (.int .i64 ((rd_T28 l0 x12_1).f0)) ∧ w'.cell? ⟨gb149, 1, none⟩ = some (.int .i64 ((rd_T28 l0 x12_1).f1))) (ds := []) (bs_ 0 12) (by kernel_rfl) rfl rfl ⟨(blk_cell BK149.out 0).trans rfl, (blk_cell BK149.out 1).trans rfl⟩ (fun hHeld => ?_); refine with_tabW span_Print.tab11 span_Print.bits11 (fun HT_ HW_ => ?_)
            generalize w24.drew = w26 at HO_4 BK149 HB hHeld ⊢
            refine pu_ 0 (some 30) ?_ (bs_ 1 11) rfl rfl (any_of HT_.out (by kernel_rfl)) (fun _ _ _ h => h) (y_ (by rfl) ?_) ?_ ?_ ?_
            rotate_left
            ·intro w'
             go_simp
             with_reducible rfl
            rotate_left
            ·simp only [Act.put, s1_, s2_, s3_, i64_w, i32_w]
             rfl
            refine pu_ 1 (some 31) ?_ (bs_ 2 10) rfl rfl (any_of HT_.out (by kernel_rfl)) (fun _ _ _ h => h) (y_ (by rfl) ?_) ?_ ?_ ?_
            rotate_left
            ·intro w'
             go_simp
             with_reducible rfl
            rotate_left
            ·simp only [Act.put, s1_, s2_, s3_, i64_w, i32_w]
             rfl
            refine pu_ 5 (some 35) ?_ #[true, true, false, false, false, true, false, false, false, false, false, false] rfl rfl (any_of HT_.out (by kernel_rfl)) (fun _ _ _ h => h) (y_ (by rfl) ?_) ?_ ?_ ?_
            rotate_left
            ·intro w'
             go_simp
             with_reducible rfl
            rotate_left
            ·simp only [Act.put, s1_, s2_, s3_, i64_w, i32_w]
             rfl
            refine take_ (i := 2) (N := some 32) (v := ?_) (a' := ?_) #[true, true, true, false, false, true, false, false, false, false, false, false] rfl rfl (take_ofW HT_.out HW_.out (by kernel_rfl)) (fun _ _ _ h => h) (Or.inl ⟨by rfl, ?_⟩) hHeld ?_ ?_
            rotate_left
            ·rintro w' ⟨s0, s1⟩
             go_simp
             with_reducible rfl
            rotate_left
            ·simp only [Act.put, s1_, s2_, s3_, i64_w, i32_w]
             rfl
            refine take_ (i := 6) (N := some 36) (v := ?_) (a' := ?_) #[true, true, true, false, false, true, true, false, false, false, false, false] rfl rfl (take_ofW HT_.out HW_.out (by kernel_rfl)) (fun _ _ _ h => h) (Or.inl ⟨by rfl, ?_⟩) hHeld ?_ ?_
            rotate_left
            ·rintro w' ⟨s0, s1⟩
             go_simp
             with_reducible rfl
            rotate_left
            ·simp only [Act.put, s1_, s2_, s3_, i64_w, i32_w]
             rfl
            refine one_ (i := 3) (N := some 33) #[true, true, true, true, false, true, true, false, false, false, false, false] rfl rfl (one_of HT_.out (by kernel_rfl)) (by decide) (fun K hK => ?_)
            refine goes_ Tryd.func56 (by kernel_rfl) rfl #[.int .i64 ((rd_T28 l0 x12_1).f0)] (by rfl) rfl rfl (by (try simp only [List.map_toArray, List.map_cons, List.map_nil]); first | done | rfl | (simp only [List.length_drop, List.length_take]; rfl)) ?_
            with_reducible refine (span_word.calls ((rd_T28 l0 x12_1).f0) t155 _ A17.out (by first | exact laid_below HL_.out (by repeat (first | (with_reducible first | exact HB.out | apply below_alloc | apply pw_below_drewN | apply below_drew1) | exact HB.out)) | exact laid_drawn HL_.out (by repeat (first | exact Drawn0.refl _ | apply Drawn0.step)))).mono ?_
            rintro e w27 ⟨rfl, hb⟩
            refine ⟨_, rfl, ?_⟩
            have n0_ := Aside0.mk (Kd.R_below (by (with_reducible repeat (first | apply Kd.R_alloc | apply Kd.R_drewN | apply Kd.R_drew)); exact HO_4.out) hb)
            have n1_ := Aside0.mk (blk_below (g := gb149) (o := .cells #[.int .i64 ((rd_T28 l0 x12_1).f0), .int .i64 ((rd_T28 l0 x12_1).f1)] 28 (0, 0)) (by (with_reducible repeat (first | refine blk_drewN ?_ _ | refine blk_drew ?_ | refine blk_alloc ?_ _)); exact BK149.out) hb)
            have n2_ := Aside0.mk (below_step (by repeat (first | (with_reducible first | exact HB.out | apply below_alloc | apply pw_below_drewN | apply below_drew1 | refine below_set ?_ GE149.out) | exact HB.out)) hb)
            clear HO_4
            clear BK149
            clear HB
            have HO_4 := n0_
            have BK149 := n1_
            have HB := n2_
            clear n0_ n1_ n2_
            (try clear hb)
            (try clear hb2)
            (try clear hk)
            (try clear hi)
            refine hK.out _ _ ⟨(blk_cell BK149.out 0).trans rfl, (blk_cell BK149.out 1).trans rfl⟩ (fun hHeld => ?_)
            clear hK K
            refine norm_ (a' := ?_) ?_ ?_
            rotate_left
            ·show Act.put _ (some 33) _ = _
             simp only [Act.put, s1_, s2_, s3_, i64_w, i32_w]
             rfl
            refine pu_ 4 (some 34) ?_ (bs_ 7 5) rfl rfl (any_of HT_.out (by kernel_rfl)) (fun _ _ _ h => h) (y_ (by rfl) ?_) ?_ ?_ ?_
            rotate_left
            ·intro w'
             go_simp
             with_reducible rfl
            rotate_left
            ·simp only [Act.put, s1_, s2_, s3_, i64_w, i32_w]
             rfl
            refine one_ (i := 7) (N := some 37) (bs_ 8 4) rfl rfl (one_of HT_.out (by kernel_rfl)) (by decide) (fun K hK => ?_)
            refine goes_ Tryd.func56 (by kernel_rfl) rfl #[.int .i64 ((rd_T28 l0 x12_1).f1)] (by rfl) rfl rfl (by (try simp only [List.map_toArray, List.map_cons, List.map_nil]); first | done | rfl | (simp only [List.length_drop, List.length_take]; rfl)) ?_
            with_reducible refine (span_word.calls ((rd_T28 l0 x12_1).f1) t156 _ A19.out (by first | exact laid_below HL_.out (by repeat (first | (with_reducible first | exact HB.out | apply below_alloc | apply pw_below_drewN | apply below_drew1) | exact HB.out)) | exact laid_drawn HL_.out (by repeat (first | exact Drawn0.refl _ | apply Drawn0.step)))).mono ?_
            rintro e w28 ⟨rfl, hb⟩
            refine ⟨_, rfl, ?_⟩
            have n0_ := Aside0.mk (Kd.R_below (by (with_reducible repeat (first | apply Kd.R_alloc | apply Kd.R_drewN | apply Kd.R_drew)); exact HO_4.out) hb)
            have n1_ := Aside0.mk (blk_below (g := gb149) (o := .cells #[.int .i64 ((rd_T28 l0 x12_1).f0), .int .i64 ((rd_T28 l0 x12_1).f1)] 28 (0, 0)) (by (with_reducible repeat (first | refine blk_drewN ?_ _ | refine blk_drew ?_ | refine blk_alloc ?_ _)); exact BK149.out) hb)
            have n2_ := Aside0.mk (below_step (by repeat (first | (with_reducible first | exact HB.out | apply below_alloc | apply pw_below_drewN | apply below_drew1 | refine below_set ?_ GE149.out) | exact HB.out)) hb)
            clear HO_4
            clear BK149
            clear HB
            have HO_4 := n0_
            have BK149 := n1_
            have HB := n2_
            clear n0_ n1_ n2_
            (try clear hb)
            (try clear hb2)
            (try clear hk)
            (try clear hi)
            refine hK.out _ _ ⟨(blk_cell BK149.out 0).trans rfl, (blk_cell BK149.out 1).trans rfl⟩ (fun hHeld => ?_)
            clear hK K
            refine norm_ (a' := ?_) ?_ ?_
            rotate_left
            ·show Act.put _ (some 37) _ = _
             simp only [Act.put, s1_, s2_, s3_, i64_w, i32_w]
             rfl
            refine pu_ 8 (some 38) ?_ (bs_ 9 3) rfl rfl (any_of HT_.out (by kernel_rfl)) (fun _ _ _ h => h) (y_ (by rfl) ?_) ?_ ?_ ?_
            rotate_left
            ·intro w'
             go_simp
             with_reducible rfl
            rotate_left
            ·simp only [Act.put, s1_, s2_, s3_, i64_w, i32_w]
             rfl
            refine one_ (i := 9) (N := some 39) (bs_ 10 2) rfl rfl (one_of HT_.out (by kernel_rfl)) (by decide) (fun K hK => ?_)
            refine value_ (w1 := ?_) (v := ?_) (by rfl) rfl ?_ ?_
            rotate_left 2
            ·go_simp
             constructor
             ·rfl
             ·rfl
            refine hK.out _ _ ⟨(blk_cell (blk_alloc BK149.out _) 0).trans rfl, (blk_cell (blk_alloc BK149.out _) 1).trans rfl⟩ (fun hHeld => ?_)
            clear hK K
            refine norm_ (a' := ?_) ?_ ?_
            rotate_left
            ·show Act.put _ (some 39) _ = _
             simp only [Act.put, s1_, s2_, s3_, i64_w, i32_w]
             rfl
            refine one_ (i := 10) (N := some 40) (bs_ 11 1) rfl rfl (one_of HT_.out (by kernel_rfl)) (by decide) (fun K hK => ?_)
            refine Kd.R_append_step Kd.string (w0 := w) w.heap.size (by rfl) (.tmp 30) (.tmp 39) 81 9 (.string ⟨#[]⟩) 16 rfl Tryd.underlying81 info9 rfl (by decide) (by omega) u4 x4_1 ((t155 ++ (⟨#[58]⟩ : ByteArray)) ++ t156) [.string ((t155 ++ (⟨#[58]⟩ : ByteArray)) ++ t156)] (fun _ => True) (fun _ => False) rfl rfl ?aP (fun _ hk => hk.elim) ?aF ?aO ?aB ?aS ?aL ?_
            (case aP => exact rfl)
            (case aB => exact (by repeat (first | (with_reducible first | exact HB.out | apply below_alloc | apply pw_below_drewN | apply below_drew1 | refine below_set ?_ GE149.out) | exact HB.out)))
            (case aF => exact (fun _ _ => trivial))
            (case aO => exact (by (with_reducible repeat (first | apply Kd.R_alloc | apply Kd.R_drewN | apply Kd.R_drew)); exact HO_4.out))
            (case aS => exact (below_size (by repeat (first | (with_reducible first | exact HB.out | apply below_alloc | apply pw_below_drewN | apply below_drew1 | refine below_set ?_ GE149.out) | exact HB.out))))
            (case aL => have := LMc21.out; omega)
            intro v158 w29 ho hb hg hat
            rw [← Ny157.out] at ho
            have n0_ := Aside0.mk (blk_grown (g := gb149) (o := .cells #[.int .i64 ((rd_T28 l0 x12_1).f0), .int .i64 ((rd_T28 l0 x12_1).f1)] 28 (0, 0)) (by (with_reducible repeat (first | refine blk_drewN ?_ _ | refine blk_drew ?_ | refine blk_alloc ?_ _)); exact BK149.out) hg (Kd.R_ne HO_4.out BK149.out (by decide)))
            have n1_ := Aside0.mk (hb)
            have n2_ := Aside0.mk (ho)
            clear BK149
            clear HB
            clear HO_4
            have BK149 := n0_
            have HB := n1_
            have HO159 := n2_
            clear n0_ n1_ n2_
            clear ho hb hg hat
            refine hK.out _ _ ⟨(blk_cell BK149.out 0).trans rfl, (blk_cell BK149.out 1).trans rfl⟩ (fun hHeld => ?_)
            clear hK K
            refine norm_ (a' := ?_) ?_ ?_
            rotate_left
            ·show Act.put _ (some 40) _ = _
             simp only [Act.put, s1_, s2_, s3_, i64_w, i32_w]
             rfl
            refine pu_ 11 (some 4) ?_ (bs_ 12 0) rfl rfl (any_of HT_.out (by kernel_rfl)) (fun _ _ _ h => h) (y_ (by rfl) ?_) ?_ ?_ ?_
            rotate_left
            ·intro w'
             go_simp
             with_reducible rfl
            rotate_left
            ·simp only [Act.put, s1_, s2_, s3_, i64_w, i32_w]
             rfl
            refine done_ (done_of HT_.out (by kernel_rfl)) ?_
            try go_wp2
            go_roundg k1
            case measure => have := HK1.out; omega
            case rel => exact ⟨(y157), (wrap64 (x12_1 + 1)), (by first | rfl | (simp; done) | (simp [*]; done)), H', ⟨by have := HK1.out; omega⟩, ⟨by (with_reducible repeat (first | apply Kd.R_alloc | apply Kd.R_drewN | apply Kd.R_drew)); exact HO159.out⟩, ⟨by repeat (first | (with_reducible first | exact HB.out | apply below_alloc | apply pw_below_drewN | apply below_drew1 | refine below_set ?_ GE149.out) | exact HB.out)⟩⟩
           ·rw [if_neg c21] at H
            exact absurd H (by simp)
          ·rw [if_neg c20] at H
           exact absurd H (by simp)
         ·rw [if_neg c18] at H
          exact absurd H (by simp)
       ·replace c7 := Bool.eq_false_iff.mpr c7
        subst c7
        have H1 : (some ((⟨#[]⟩ : ByteArray), 40)) = some (r1, r2) := by rw [if_neg (show ¬ (false = true) by decide)] at H; exact H
        clear H
        have H := H1
        clear H1
        simp only [Option.some.injEq, Prod.mk.injEq] at H
        obtain ⟨rfl, rfl⟩ := H
        have p148 : 0 ≤ (x12_1 : Int) := of_decide_eq_true (by first | (with_reducible assumption) | assumption)
        have q148 : x12_1 < (l0.length : Int) := of_decide_eq_true (by first | (with_reducible assumption) | assumption)
        obtain ⟨ad148, e148, hx148_0, hx148_1⟩ := at_T28 HR0.out x12_1 p148 q148
        cases e148
        replace hx148_0 := (HB.out.cell (World.block_lt_of_cell? w _ hx148_0)).trans hx148_0
        replace hx148_1 := (HB.out.cell (World.block_lt_of_cell? w _ hx148_1)).trans hx148_1
        replace p148 := eq_true p148
        replace q148 := eq_true q148
        go_wp2_with (first | ((with_reducible refine gate_dst (N := 6) rfl ?_); refine box_event ?hg (N := 6) ?hd (cs := #[.int .i64 0, .int .i64 0]) (t := 28) ?hr ?_; (case hd => rfl); (case hg => rfl); (case hr => first | (go_simp; done) | (go_simp; rfl)); intro gb149 hg w30 hbox hb; have n0_ := Aside0.mk (Kd.R_below (by (with_reducible repeat (first | apply Kd.R_alloc | apply Kd.R_drewN | apply Kd.R_drew)); exact HO_4.out) hb); have n1_ := Aside0.mk (below_step (by repeat (first | (with_reducible first | exact HB.out | apply below_alloc | apply pw_below_drewN | apply below_drew1) | exact HB.out)) hb); have n2_ := Aside0.mk (hbox); have n3_ := Aside0.mk ((by rw [hg]; exact (below_size (by repeat (first | (with_reducible first | exact HB.out | apply below_alloc | apply pw_below_drewN | apply below_drew1) | exact HB.out))) : w.heap.size ≤ gb149)); have n4_ := Aside0.mk ((by rw [hg]; exact (below_size (by repeat (first | (with_reducible first | exact HB.out | apply below_alloc | apply pw_below_drewN | apply below_drew1) | exact HB.out))) : w.heap.size ≤ gb149)); clear HO_4; clear HB; have HO_4 := n0_; have HB := n1_; have BK149 := n2_; have GW149 := n3_; have GE149 := n4_; clear n0_ n1_ n2_ n3_ n4_; clear hb hbox hg; have hcz31_0 : w30.cell? ⟨gb149, 0, none⟩ = some (.int .i64 0) := (blk_cell BK149.out 0).trans rfl; have hcz31_1 : w30.cell? ⟨gb149, 1, none⟩ = some (.int .i64 0) := (blk_cell BK149.out 1).trans rfl; have hfz31_0 := blk_frozen BK149.out 0; have hfz31_1 := blk_frozen BK149.out 1) | ((with_reducible refine gate_callee (f := 49) rfl ?_); refine goesL_ (some 17) rfl rfl Tryd.func49 (by kernel_rfl) rfl #[.agg #[.int .i64 ((rd_T28 l0 x12_1).f0), .int .i64 ((rd_T28 l0 x12_1).f1)]] rfl (by (try simp only [List.map_toArray, List.map_cons, List.map_nil]); first | done | rfl | (simp only [List.length_drop, List.length_take]; rfl)) ?_; (with_reducible refine (span_isRange.calls ((rd_T28 l0 x12_1).f0) ((rd_T28 l0 x12_1).f1) false _ A6.out).mono ?_); rintro e w32 ⟨rfl, hb⟩; refine ⟨_, rfl, ?_⟩; have n0_ := Aside0.mk (Kd.R_below (by (with_reducible repeat (first | apply Kd.R_alloc | apply Kd.R_drewN | apply Kd.R_drew)); exact (Kd.R_mono (Kd.R_far (p := ⟨gb149, 1, none⟩) (Kd.R_far (p := ⟨gb149, 0, none⟩) (Kd.R_types HO_4.out BK149.out (by decide)) (fun _ hk => hk.2) (.int .i64 ((rd_T28 l0 x12_1).f0))) (fun _ hk => hk.2) (.int .i64 ((rd_T28 l0 x12_1).f1))) (fun _ h_ => h_.1))) hb); have n1_ := Aside0.mk (blk_below (g := gb149) (o := .cells #[.int .i64 ((rd_T28 l0 x12_1).f0), .int .i64 ((rd_T28 l0 x12_1).f1)] 28 (0, 0)) (by (with_reducible repeat (first | refine blk_drewN ?_ _ | refine blk_drew ?_ | refine blk_alloc ?_ _)); refine blk_put (cs := #[.int .i64 ((rd_T28 l0 x12_1).f0), .int .i64 0]) ?_ 1 _ rfl; (with_reducible repeat (first | refine blk_drewN ?_ _ | refine blk_drew ?_ | refine blk_alloc ?_ _)); refine blk_put (cs := #[.int .i64 0, .int .i64 0]) ?_ 0 _ rfl; (with_reducible repeat (first | refine blk_drewN ?_ _ | refine blk_drew ?_ | refine blk_alloc ?_ _)); exact BK149.out) hb); have n2_ := Aside0.mk (below_step (by repeat (first | (with_reducible first | exact HB.out | apply below_alloc | apply pw_below_drewN | apply below_drew1 | refine below_set ?_ GE149.out) | exact HB.out)) hb); clear HO_4; clear BK149; clear HB; have HO_4 := n0_; have BK149 := n1_; have HB := n2_; clear n0_ n1_ n2_; (try clear hb); (try clear hb2); (try clear hk); (try clear hi)))
        go_ret2
        exact ⟨by first | rfl | (simp [errW_none, errW_some] <;> rfl) | (simp [*, errW_none, errW_some] <;> rfl), by repeat (first | (with_reducible first | exact HB.out | apply below_alloc | apply pw_below_drewN | apply below_drew1 | refine below_set ?_ GE149.out) | exact HB.out)⟩
      ·rw [if_neg c5] at H
       exact absurd H (by simp)
     ·rw [if_neg c4] at H
      exact absurd H (by simp)
    ·rw [if_neg c3] at H
     have c3b0 : decide (x12_1 < (l0.length : Int)) = false := decide_eq_false c3
     clear c3
     by_cases c33 : (x4_1.length : Int) = 0
     ·rw [if_pos c33] at H
      have c33b0 : ((x4_1.length : Int) == 0) = true := beq_iff_eq.mpr c33
      have c33b1 : ((x4_1.length : Int) != 0) = false := bne_eq_false_iff_eq.mpr c33
      clear c33
      simp only [Option.some.injEq, Prod.mk.injEq] at H
      obtain ⟨rfl, rfl⟩ := H
      obtain ⟨Ao34, co34, eo34⟩ := Kd.R_slice HO_4.out
      subst eo34
      go_wp2
      go_ret2
      exact ⟨by first | rfl | (simp [errW_none, errW_some] <;> rfl) | (simp [*, errW_none, errW_some] <;> rfl), by repeat (first | (with_reducible first | exact HB.out | apply below_alloc | apply pw_below_drewN | apply below_drew1) | exact HB.out)⟩
     ·rw [if_neg c33] at H
      have c33b0 : ((x4_1.length : Int) == 0) = false := beq_eq_false_iff_ne.mpr c33
      have c33b1 : ((x4_1.length : Int) != 0) = true := bne_iff_ne.mpr c33
      have c33b2 : ¬ (x4_1 = []) := fun h_ => c33 (by rw [h_]; rfl)
      replace H := Option.bind_eq_some_iff.mp H
      obtain ⟨t147, A350, H⟩ := H
      replace H : (some (t147, 0)) = some (r1, r2) := H
      have A35 := Aside0.mk A350
      clear A350
      simp only [Option.some.injEq, Prod.mk.injEq] at H
      obtain ⟨rfl, rfl⟩ := H
      obtain ⟨Ao36, co36, eo36⟩ := Kd.R_slice HO_4.out
      subst eo36
      go_wp2_with (first | ((with_reducible refine gate_callee (f := 57) rfl ?_); refine goesL_ (some 46) rfl rfl Tryd.func57 (by kernel_rfl) rfl #[.slice Ao36 x4_1.length co36, .string (⟨#[44]⟩ : ByteArray)] rfl (by (try simp only [List.map_toArray, List.map_cons, List.map_nil]); first | done | rfl | (simp only [List.length_drop, List.length_take]; rfl)) ?_; (with_reducible refine (strings_Join.calls _ _ x4_1 (⟨#[44]⟩ : ByteArray) t147 _ ?side1 ?side2 A35.out).mono ?_); (case side1 => repeat (first | exact (Kd.R_reads' HO_4.out).2.2 | (with_reducible refine Kd.C_alloc ?_ _) | (with_reducible refine Kd.C_drewN ?_ _) | (with_reducible refine Kd.C_drew ?_))); (case side2 => exact (Kd.R_reads' HO_4.out).2.1); rintro e w37 ⟨rfl, hb⟩; refine ⟨_, rfl, ?_⟩; have n0_ := Aside0.mk (Kd.R_below (by (with_reducible repeat (first | apply Kd.R_alloc | apply Kd.R_drewN | apply Kd.R_drew)); exact HO_4.out) hb); have n1_ := Aside0.mk (below_step (by repeat (first | (with_reducible first | exact HB.out | apply below_alloc | apply pw_below_drewN | apply below_drew1) | exact HB.out)) hb); clear HO_4; clear HB; have HO_4 := n0_; have HB := n1_; clear n0_ n1_; (try clear hb); (try clear hb2); (try clear hk); (try clear hi)))
      go_ret2
      exact ⟨by first | rfl | (simp [errW_none, errW_some] <;> rfl) | (simp [*, errW_none, errW_some] <;> rfl), by repeat (first | (with_reducible first | exact HB.out | apply below_alloc | apply pw_below_drewN | apply below_drew1) | exact HB.out)⟩
end Go.Proofs.YtidcchopmbodkaaDoor.Sp
