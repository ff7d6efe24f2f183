import Derived.Test.YtidcchopmbodkaaDoorQp1
import Derived.Test.YtidcchopmbodkaaDoorQp2
import Derived.Test.YtidcchopmbodkaaDoorQp3
section
namespace Go.Proofs.YtidcchopmbodkaaDoor.Sp
open Go.RowKit Go.Proofs.YtidcchopmbodkaaDoorW.PrintWords Go.Proofs.YtidcchopmbodkaaDoorW.PrintLast Go.Proofs.YtidcchopmbodkaaDoorW.PrintMore
attribute [local go_sem] max2_int min2_int max_two min_two max_three min_three max_four min_four   -- for this text's walks alone
set_option linter.unusedVariables false
set_option linter.unusedSimpArgs false
def postbaglaw4_known.j0 : Nat → List (S28) → Bool → Option (Bool)
 | 0, _, _ => none
 | k + 1, x1, x36 => if x36 = true then (some false) else ((span_Of.f k (([(⟨20, 0⟩ : S28)] : List (S28))) (([1, 9] : List Int))).bind fun t181 => ((span_Has.f x1 3 9).bind fun t184 => (if t184 = true then ((span_Has.f x1 5 9).bind fun t185 => (if t185 = true then (some false) else (if (t181.length : Int) = 1 then (if 0 < (t181.length : Int) then (if (rd t181 0) = 9 then ((span_Least.f k (([4, 3, 7] : List Int))).bind fun t190 => ((postbaglaw4_same.f k t190 (([(⟨3, 4⟩ : S28), (⟨7, 7⟩ : S28)] : List (S28)))).bind fun t196 => (if t196 = true then ((span_Join.f k (([(([(⟨3, 0⟩ : S28)] : List (S28))), x1] : List (List (S28))))).bind fun t203 => ((postbaglaw4_same.f k t203 (([(⟨2, 4⟩ : S28), (⟨3, 0⟩ : S28)] : List (S28)))).bind fun t209 => (some t209))) else (some false)))) else (some false)) else (none)) else (some false)))) else (some false))))
def postbaglaw4_known.f (k : Nat)  : Option (Bool) := (span_Parse.f (⟨#[50, 58, 52, 44, 42]⟩ : ByteArray)).bind fun bt160 => ((span_Print.f k (([(⟨4, 2⟩ : S28), (⟨0, 9⟩ : S28)] : List (S28)))).bind fun bt167 => ((postbaglaw4_num.f bt160.2).bind fun t169 => (if t169 = 0 then ((postbaglaw4_num.f bt167.2).bind fun t170 => (if t170 = 0 then ((postbaglaw4_same.f k bt160.1 (([(⟨2, 4⟩ : S28), (⟨0, 0⟩ : S28)] : List (S28)))).bind fun t174 => (if t174 = true then (postbaglaw4_known.j0 k bt160.1 (bt167.1.toList != ([52, 58, 50, 44, 42, 58, 57] : List UInt8))) else (postbaglaw4_known.j0 k bt160.1 true))) else (postbaglaw4_known.j0 k bt160.1 true))) else (postbaglaw4_known.j0 k bt160.1 true))))
theorem postbaglaw4_known.mono_l : ∀ k, (∀ y0 y1, LeO (postbaglaw4_known.j0 k y0 y1) (postbaglaw4_known.j0 (k + 1) y0 y1))
 | 0 => fun _ _ r h => by simp [postbaglaw4_known.j0] at h
 | k + 1 => by
  have ih0 := postbaglaw4_known.mono_l k
  ·intro y0 y1
   unfold postbaglaw4_known.j0
   repeat' first
   | (with_reducible exact ih0 _ _)
   | (with_reducible exact postbaglaw4_same.mono _ _ _)
   | (with_reducible exact span_Join.mono _ _)
   | (with_reducible exact span_Least.mono _ _)
   | (with_reducible exact span_Of.mono _ _ _)
   | (with_reducible exact span_Print.mono _ _)
   | (with_reducible exact LeO.refl _)
   | (with_reducible exact LeO.none _)
   | (with_reducible refine LeO.ite ?_ ?_)
   | (with_reducible refine LeO.bind ?_ (fun _ => ?_))
   | exact ih0 _ _
   | exact postbaglaw4_same.mono _ _ _
   | exact span_Join.mono _ _
   | exact span_Least.mono _ _
   | exact span_Of.mono _ _ _
   | exact span_Print.mono _ _
   | exact LeO.none _
   | refine LeO.ite ?_ ?_
   | refine LeO.bind ?_ (fun _ => ?_)
theorem postbaglaw4_known.mono : ∀ k, LeO (postbaglaw4_known.f k ) (postbaglaw4_known.f (k + 1) ) := by
 intro  k
 have ih0 := postbaglaw4_known.mono_l k
 unfold postbaglaw4_known.f
 repeat' first
   | (with_reducible exact ih0 _ _)
   | (with_reducible exact postbaglaw4_same.mono _ _ _)
   | (with_reducible exact span_Join.mono _ _)
   | (with_reducible exact span_Least.mono _ _)
   | (with_reducible exact span_Of.mono _ _ _)
   | (with_reducible exact span_Print.mono _ _)
   | (with_reducible exact LeO.refl _)
   | (with_reducible exact LeO.none _)
   | (with_reducible refine LeO.ite ?_ ?_)
   | (with_reducible refine LeO.bind ?_ (fun _ => ?_))
   | exact ih0 _ _
   | exact postbaglaw4_same.mono _ _ _
   | exact span_Join.mono _ _
   | exact span_Least.mono _ _
   | exact span_Of.mono _ _ _
   | exact span_Print.mono _ _
   | exact LeO.none _
   | refine LeO.ite ?_ ?_
   | refine LeO.bind ?_ (fun _ => ?_)
set_option maxHeartbeats 8000000 in
set_option maxRecDepth 100000 in
theorem postbaglaw4_known.calls (k : Nat)  (r : Bool) (w : World) (h : postbaglaw4_known.f k  = some r) (hL_ : Laid w) :
  Calls Tryd.prog 20 #[] w fun e w' => e = .returned (.bool r) ∧ Below w.heap.size w w' := by
 have HL_ := Aside0.mk hL_
 clear hL_
 have hu28 := Tryd.underlying28
 have HB := Aside0.mk (Below.refl w.heap.size w)
 have H : ((span_Parse.f (⟨#[50, 58, 52, 44, 42]⟩ : ByteArray)).bind fun bt160 => ((span_Print.f k (([(⟨4, 2⟩ : S28), (⟨0, 9⟩ : S28)] : List (S28)))).bind fun bt167 => ((postbaglaw4_num.f bt160.2).bind fun t169 => (if t169 = 0 then ((postbaglaw4_num.f bt167.2).bind fun t170 => (if t170 = 0 then ((postbaglaw4_same.f k bt160.1 (([(⟨2, 4⟩ : S28), (⟨0, 0⟩ : S28)] : List (S28)))).bind fun t174 => (if t174 = true then (postbaglaw4_known.j0 k bt160.1 (bt167.1.toList != ([52, 58, 50, 44, 42, 58, 57] : List UInt8))) else (postbaglaw4_known.j0 k bt160.1 true))) else (postbaglaw4_known.j0 k bt160.1 true))) else (postbaglaw4_known.j0 k bt160.1 true))))) = some r := h
 clear h
 replace H := Option.bind_eq_some_iff.mp H
 obtain ⟨⟨t160, t161⟩, A10, H⟩ := H
 replace H : ((span_Print.f k (([(⟨4, 2⟩ : S28), (⟨0, 9⟩ : S28)] : List (S28)))).bind fun bt167 => ((postbaglaw4_num.f t161).bind fun t169 => (if t169 = 0 then ((postbaglaw4_num.f bt167.2).bind fun t170 => (if t170 = 0 then ((postbaglaw4_same.f k t160 (([(⟨2, 4⟩ : S28), (⟨0, 0⟩ : S28)] : List (S28)))).bind fun t174 => (if t174 = true then (postbaglaw4_known.j0 k t160 (bt167.1.toList != ([52, 58, 50, 44, 42, 58, 57] : List UInt8))) else (postbaglaw4_known.j0 k t160 true))) else (postbaglaw4_known.j0 k t160 true))) else (postbaglaw4_known.j0 k t160 true)))) = some r := H
 have A1 := Aside0.mk A10
 clear A10
 obtain ⟨y164, hy164⟩ : ∃ y_ : List (S28), y_ = (([(⟨4, 2⟩ : S28), (⟨0, 9⟩ : S28)] : List (S28))) := ⟨_, rfl⟩
 replace H : ((span_Print.f k y164).bind fun bt167 => ((postbaglaw4_num.f t161).bind fun t169 => (if t169 = 0 then ((postbaglaw4_num.f bt167.2).bind fun t170 => (if t170 = 0 then ((postbaglaw4_same.f k t160 (([(⟨2, 4⟩ : S28), (⟨0, 0⟩ : S28)] : List (S28)))).bind fun t174 => (if t174 = true then (postbaglaw4_known.j0 k t160 (bt167.1.toList != ([52, 58, 50, 44, 42, 58, 57] : List UInt8))) else (postbaglaw4_known.j0 k t160 true))) else (postbaglaw4_known.j0 k t160 true))) else (postbaglaw4_known.j0 k t160 true)))) = some r := by first | (rw [hy164]; with_reducible exact H) | (have H2_ := (Option.bind_some _ _).symm.trans H; rw [hy164]; with_reducible exact H2_) | (have H2_ := (Option.bind_some _ _).symm.trans H; with_reducible exact H2_) | with_reducible exact H | (rw [hy164]; exact H) | exact H
 have Ny164 := Aside0.mk hy164
 clear hy164
 replace H := Option.bind_eq_some_iff.mp H
 obtain ⟨⟨t167, t168⟩, A20, H⟩ := H
 replace H : ((postbaglaw4_num.f t161).bind fun t169 => (if t169 = 0 then ((postbaglaw4_num.f t168).bind fun t170 => (if t170 = 0 then ((postbaglaw4_same.f k t160 (([(⟨2, 4⟩ : S28), (⟨0, 0⟩ : S28)] : List (S28)))).bind fun t174 => (if t174 = true then (postbaglaw4_known.j0 k t160 (t167.toList != ([52, 58, 50, 44, 42, 58, 57] : List UInt8))) else (postbaglaw4_known.j0 k t160 true))) else (postbaglaw4_known.j0 k t160 true))) else (postbaglaw4_known.j0 k t160 true))) = some r := H
 have A2 := Aside0.mk A20
 clear A20
 have HC3 := Aside0.mk H
 clear H
 go_enter Tryd.func20, Tryd.ntmps20
 go_upto_region 3 with (first | ((with_reducible refine gate_callee (f := 23) rfl ?_); refine goesL_ (some 7) rfl rfl Tryd.func23 (by kernel_rfl) rfl #[.string (⟨#[50, 58, 52, 44, 42]⟩ : ByteArray)] rfl (by (try simp only [List.map_toArray, List.map_cons, List.map_nil]); first | done | rfl | (simp only [List.length_drop, List.length_take]; rfl)) ?_; (with_reducible refine (span_Parse.calls (⟨#[50, 58, 52, 44, 42]⟩ : ByteArray) t160 t161 _ A1.out).mono ?_); rintro e w4 ⟨v162, rfl, ho0, hb⟩; refine ⟨_, rfl, ?_⟩; have n0_ := Aside0.mk (Kd.R_lower ho0 (below_size (by repeat (first | (with_reducible first | exact HB.out | apply below_alloc | apply pw_below_drewN | apply below_drew1) | exact HB.out)))); have n1_ := Aside0.mk (below_step (by repeat (first | (with_reducible first | exact HB.out | apply below_alloc | apply pw_below_drewN | apply below_drew1) | exact HB.out)) hb); clear HB; have HO163 := n0_; have HB := n1_; clear n0_ n1_; (try clear hb); (try clear hb2); (try clear hk); (try clear hi); (try clear ho0)) | ((with_reducible refine gate_dst (N := 13) rfl ?_); (try (refine gate_guard (by rfl) ?_; dsimp only)); refine Kd.R_lit k28 _ 28 ?hg (N := 13) ?hd (xs := ([(⟨4, 2⟩ : S28), (⟨0, 9⟩ : S28)] : List (S28))) (inner := [.int .i64 4, .int .i64 2, .int .i64 0, .int .i64 9]) (ok := fun _ => True) (okp := fun _ => True) ?hr ?hp (fun _ hk => hk) trivial (Below.refl _ _) (Nat.le_refl _) (by simp) ?_; (case hd => rfl); (case hg => rfl); (case hr => first | (go_simp; done) | (go_simp; rfl)); (case hp => exact (Reps.c2 (show Kd.M k28 _ _ _ (⟨4, 2⟩ : S28) [.int .i64 4, .int .i64 2] from (k28_mkM _ _ _ (⟨4, 2⟩ : S28) )) (Reps.c2 (show Kd.M k28 _ _ _ (⟨0, 9⟩ : S28) [.int .i64 0, .int .i64 9] from (k28_mkM _ _ _ (⟨0, 9⟩ : S28) )) (Reps.none _ _)))); intro v165 w5 ho6 hb hg_ hnew_; clear hg_ hnew_; (first | rw [← Ny164.out] at ho6 | (simp only [Int.reduceToNat] at ho6; rw [← Ny164.out] at ho6)); have n0_ := Aside0.mk (Kd.R_elder' (by (with_reducible repeat (first | apply Kd.R_alloc | apply Kd.R_drewN | apply Kd.R_drew)); exact HO163.out) (Kd.R_base ho6) hb); have n1_ := Aside0.mk (Kd.R_lower (Kd.R_new' ho6 (Kd.R_lt (by (with_reducible repeat (first | apply Kd.R_alloc | apply Kd.R_drewN | apply Kd.R_drew)); exact HO163.out))) (below_size (by repeat (first | (with_reducible first | exact HB.out | apply below_alloc | apply pw_below_drewN | apply below_drew1) | exact HB.out)))); have n2_ := Aside0.mk (below_step (by repeat (first | (with_reducible first | exact HB.out | apply below_alloc | apply pw_below_drewN | apply below_drew1) | exact HB.out)) hb); clear HO163; clear HB; have HO163 := n0_; have HO166 := n1_; have HB := n2_; clear n0_ n1_ n2_; clear hb ho6; obtain ⟨Ao7, co7, eo7⟩ := Kd.R_slice HO166.out; subst eo7) | ((with_reducible refine gate_callee (f := 36) rfl ?_); refine goesL_ (some 14) rfl rfl Tryd.func36 (by kernel_rfl) rfl #[.slice Ao7 y164.length co7] rfl (by (try simp only [List.map_toArray, List.map_cons, List.map_nil]); first | done | rfl | (simp only [List.length_drop, List.length_take]; rfl)) ?_; (with_reducible refine (span_Print.calls k _ _ y164 t167 t168 _ ?side1 ?side2 A2.out (by first | exact laid_below HL_.out (by repeat (first | (with_reducible first | exact HB.out | apply below_alloc | apply pw_below_drewN | apply below_drew1) | exact HB.out)) | exact laid_drawn HL_.out (by repeat (first | exact Drawn0.refl _ | apply Drawn0.step)))).mono ?_); (case side1 => repeat (first | exact (Kd.R_reads' HO166.out).2.2 | (with_reducible refine Kd.C_alloc ?_ _) | (with_reducible refine Kd.C_drewN ?_ _) | (with_reducible refine Kd.C_drew ?_))); (case side2 => exact (Kd.R_reads' HO166.out).2.1); rintro e w8 ⟨rfl, hb⟩; refine ⟨_, rfl, ?_⟩; have n0_ := Aside0.mk (Kd.R_below (by (with_reducible repeat (first | apply Kd.R_alloc | apply Kd.R_drewN | apply Kd.R_drew)); exact HO163.out) hb); have n1_ := Aside0.mk (Kd.R_below (by (with_reducible repeat (first | apply Kd.R_alloc | apply Kd.R_drewN | apply Kd.R_drew)); exact HO166.out) hb); have n2_ := Aside0.mk (below_step (by repeat (first | (with_reducible first | exact HB.out | apply below_alloc | apply pw_below_drewN | apply below_drew1) | exact HB.out)) hb); clear HO163; clear HO166; clear HB; have HO163 := n0_; have HO166 := n1_; have HB := n2_; clear n0_ n1_ n2_; (try clear hb); (try clear hb2); (try clear hk); (try clear hi)))
 (try simp only [Act.put, s1_, s2_, s3_])
 go_cut [36] (fun v36 wc => ∃ (kq : Nat) (x36_2 : Bool), v36 = .bool x36_2 ∧ Aside0 (postbaglaw4_known.j0 kq t160 x36_2 = some r) ∧ Aside0 (kq ≤ k) ∧ Aside0 (Kd.R k28 28 wc w.heap.size (fun _ => True) v162 t160) ∧ Aside0 (Below w.heap.size w wc))
 case first =>
  have H := HC3.out
  clear HC3
  replace H := Option.bind_eq_some_iff.mp H
  obtain ⟨t169, A90, H⟩ := H
  replace H : (if t169 = 0 then ((postbaglaw4_num.f t168).bind fun t170 => (if t170 = 0 then ((postbaglaw4_same.f k t160 (([(⟨2, 4⟩ : S28), (⟨0, 0⟩ : S28)] : List (S28)))).bind fun t174 => (if t174 = true then (postbaglaw4_known.j0 k t160 (t167.toList != ([52, 58, 50, 44, 42, 58, 57] : List UInt8))) else (postbaglaw4_known.j0 k t160 true))) else (postbaglaw4_known.j0 k t160 true))) else (postbaglaw4_known.j0 k t160 true)) = some r := H
  have A9 := Aside0.mk A90
  clear A90
  by_cases c10 : t169 = 0
  ·rw [if_pos c10] at H
   have c10b0 : (t169 == 0) = true := beq_iff_eq.mpr c10
   have c10b1 : (t169 != 0) = false := bne_eq_false_iff_eq.mpr c10
   clear c10
   (first | rw [c10b0] | (simp only [i64_w, i32_w]; rw [c10b0]) | skip)
   replace H := Option.bind_eq_some_iff.mp H
   obtain ⟨t170, A110, H⟩ := H
   replace H : (if t170 = 0 then ((postbaglaw4_same.f k t160 (([(⟨2, 4⟩ : S28), (⟨0, 0⟩ : S28)] : List (S28)))).bind fun t174 => (if t174 = true then (postbaglaw4_known.j0 k t160 (t167.toList != ([52, 58, 50, 44, 42, 58, 57] : List UInt8))) else (postbaglaw4_known.j0 k t160 true))) else (postbaglaw4_known.j0 k t160 true)) = some r := H
   have A11 := Aside0.mk A110
   clear A110
   by_cases c12 : t170 = 0
   ·rw [if_pos c12] at H
    have c12b0 : (t170 == 0) = true := beq_iff_eq.mpr c12
    have c12b1 : (t170 != 0) = false := bne_eq_false_iff_eq.mpr c12
    clear c12
    obtain ⟨y171, hy171⟩ : ∃ y_ : List (S28), y_ = (([(⟨2, 4⟩ : S28), (⟨0, 0⟩ : S28)] : List (S28))) := ⟨_, rfl⟩
    replace H : ((postbaglaw4_same.f k t160 y171).bind fun t174 => (if t174 = true then (postbaglaw4_known.j0 k t160 (t167.toList != ([52, 58, 50, 44, 42, 58, 57] : List UInt8))) else (postbaglaw4_known.j0 k t160 true))) = some r := by first | (rw [hy171]; with_reducible exact H) | (have H2_ := (Option.bind_some _ _).symm.trans H; rw [hy171]; with_reducible exact H2_) | (have H2_ := (Option.bind_some _ _).symm.trans H; with_reducible exact H2_) | with_reducible exact H | (rw [hy171]; exact H) | exact H
    have Ny171 := Aside0.mk hy171
    clear hy171
    replace H := Option.bind_eq_some_iff.mp H
    obtain ⟨t174, A130, H⟩ := H
    replace H : (if t174 = true then (postbaglaw4_known.j0 k t160 (t167.toList != ([52, 58, 50, 44, 42, 58, 57] : List UInt8))) else (postbaglaw4_known.j0 k t160 true)) = some r := H
    have A13 := Aside0.mk A130
    clear A130
    by_cases c14 : t174 = true
    ·subst c14
     have H1 : (postbaglaw4_known.j0 k t160 (t167.toList != ([52, 58, 50, 44, 42, 58, 57] : List UInt8))) = some r := by rw [if_pos rfl] at H; exact H
     clear H
     have H := H1
     clear H1
     have H' := Aside0.mk H
     clear H
     go_wp2_with (first | ((with_reducible refine gate_callee (f := 34) rfl ?_); refine goesL_ (some 18) rfl rfl Tryd.func34 (by kernel_rfl) rfl #[.int .i64 t161] rfl (by (try simp only [List.map_toArray, List.map_cons, List.map_nil]); first | done | rfl | (simp only [List.length_drop, List.length_take]; rfl)) ?_; (with_reducible refine (postbaglaw4_num.calls t161 t169 _ A9.out).mono ?_); rintro e w' ⟨rfl, ⟨nd, rfl⟩⟩; refine ⟨_, rfl, ?_⟩) | (go_at_call 34; (with_reducible refine (postbaglaw4_num.calls t168 t170 _ A11.out).mono ?_); rintro e w' ⟨rfl, ⟨nd, rfl⟩⟩) | ((with_reducible refine gate_dst (N := 29) rfl ?_); (try (refine gate_guard (by rfl) ?_; dsimp only)); refine Kd.R_lit k28 _ 28 ?hg (N := 29) ?hd (xs := ([(⟨2, 4⟩ : S28), (⟨0, 0⟩ : S28)] : List (S28))) (inner := [.int .i64 2, .int .i64 4, .int .i64 0, .int .i64 0]) (ok := fun _ => True) (okp := fun _ => True) ?hr ?hp (fun _ hk => hk) trivial (Below.refl _ _) (Nat.le_refl _) (by simp) ?_; (case hd => rfl); (case hg => rfl); (case hr => first | (go_simp; done) | (go_simp; rfl)); (case hp => exact (Reps.c2 (show Kd.M k28 _ _ _ (⟨2, 4⟩ : S28) [.int .i64 2, .int .i64 4] from (k28_mkM _ _ _ (⟨2, 4⟩ : S28) )) (Reps.c2 (show Kd.M k28 _ _ _ (⟨0, 0⟩ : S28) [.int .i64 0, .int .i64 0] from (k28_mkM _ _ _ (⟨0, 0⟩ : S28) )) (Reps.none _ _)))); intro v172 w15 ho16 hb hg_ hnew_; clear hg_ hnew_; (first | rw [← Ny171.out] at ho16 | (simp only [Int.reduceToNat] at ho16; rw [← Ny171.out] at ho16)); have n0_ := Aside0.mk (Kd.R_elder' (by (with_reducible repeat (first | apply Kd.R_alloc | apply Kd.R_drewN | apply Kd.R_drew)); exact HO163.out) (Kd.R_base ho16) hb); have n1_ := Aside0.mk (Kd.R_elder' (by (with_reducible repeat (first | apply Kd.R_alloc | apply Kd.R_drewN | apply Kd.R_drew)); exact HO166.out) (Kd.R_base ho16) hb); have n2_ := Aside0.mk (Kd.R_lower (Kd.R_new' (Kd.R_new' ho16 (Kd.R_lt (by (with_reducible repeat (first | apply Kd.R_alloc | apply Kd.R_drewN | apply Kd.R_drew)); exact HO163.out))) (Kd.R_lt (by (with_reducible repeat (first | apply Kd.R_alloc | apply Kd.R_drewN | apply Kd.R_drew)); exact HO166.out))) (below_size (by repeat (first | (with_reducible first | exact HB.out | apply below_alloc | apply pw_below_drewN | apply below_drew1) | exact HB.out)))); have n3_ := Aside0.mk (below_step (by repeat (first | (with_reducible first | exact HB.out | apply below_alloc | apply pw_below_drewN | apply below_drew1) | exact HB.out)) hb); clear HO163; clear HO166; clear HB; have HO163 := n0_; have HO166 := n1_; have HO173 := n2_; have HB := n3_; clear n0_ n1_ n2_ n3_; clear hb ho16; obtain ⟨Ao17, co17, eo17⟩ := Kd.R_slice HO163.out; subst eo17; obtain ⟨Ao18, co18, eo18⟩ := Kd.R_slice HO173.out; subst eo18) | (go_at_call 26; (with_reducible refine (postbaglaw4_same.calls k _ _ t160 _ _ y171 true _ ?side1 ?side2 ?side3 ?side4 A13.out).mono ?_); (case side1 => repeat (first | exact (Kd.R_reads' HO163.out).2.2 | (with_reducible refine Kd.C_alloc ?_ _) | (with_reducible refine Kd.C_drewN ?_ _) | (with_reducible refine Kd.C_drew ?_))); (case side2 => exact (Kd.R_reads' HO163.out).2.1); (case side3 => repeat (first | exact (Kd.R_reads' HO173.out).2.2 | (with_reducible refine Kd.C_alloc ?_ _) | (with_reducible refine Kd.C_drewN ?_ _) | (with_reducible refine Kd.C_drew ?_))); (case side4 => exact (Kd.R_reads' HO173.out).2.1); rintro e w' ⟨rfl, ⟨nd, rfl⟩⟩))
     go_meet
     case rel => exact ⟨_, ((t167.toList != ([52, 58, 50, 44, 42, 58, 57] : List UInt8))), (by first | rfl | (simp; done) | (simp [*]; done)), H', ⟨by first | omega | exact Nat.le_refl _⟩, ⟨by (with_reducible repeat (first | apply Kd.R_alloc | apply Kd.R_drewN | apply Kd.R_drew)); exact Kd.R_mono HO163.out (fun _ hk => trivial)⟩, ⟨by repeat (first | (with_reducible first | exact HB.out | apply below_alloc | apply pw_below_drewN | apply below_drew1) | exact HB.out)⟩⟩
    ·replace c14 := Bool.eq_false_iff.mpr c14
     subst c14
     have H1 : (postbaglaw4_known.j0 k t160 true) = some r := by rw [if_neg (show ¬ (false = true) by decide)] at H; exact H
     clear H
     have H := H1
     clear H1
     have H' := Aside0.mk H
     clear H
     go_wp2_with (first | ((with_reducible refine gate_callee (f := 34) rfl ?_); refine goesL_ (some 18) rfl rfl Tryd.func34 (by kernel_rfl) rfl #[.int .i64 t161] rfl (by (try simp only [List.map_toArray, List.map_cons, List.map_nil]); first | done | rfl | (simp only [List.length_drop, List.length_take]; rfl)) ?_; (with_reducible refine (postbaglaw4_num.calls t161 t169 _ A9.out).mono ?_); rintro e w' ⟨rfl, ⟨nd, rfl⟩⟩; refine ⟨_, rfl, ?_⟩) | (go_at_call 34; (with_reducible refine (postbaglaw4_num.calls t168 t170 _ A11.out).mono ?_); rintro e w' ⟨rfl, ⟨nd, rfl⟩⟩) | ((with_reducible refine gate_dst (N := 29) rfl ?_); (try (refine gate_guard (by rfl) ?_; dsimp only)); refine Kd.R_lit k28 _ 28 ?hg (N := 29) ?hd (xs := ([(⟨2, 4⟩ : S28), (⟨0, 0⟩ : S28)] : List (S28))) (inner := [.int .i64 2, .int .i64 4, .int .i64 0, .int .i64 0]) (ok := fun _ => True) (okp := fun _ => True) ?hr ?hp (fun _ hk => hk) trivial (Below.refl _ _) (Nat.le_refl _) (by simp) ?_; (case hd => rfl); (case hg => rfl); (case hr => first | (go_simp; done) | (go_simp; rfl)); (case hp => exact (Reps.c2 (show Kd.M k28 _ _ _ (⟨2, 4⟩ : S28) [.int .i64 2, .int .i64 4] from (k28_mkM _ _ _ (⟨2, 4⟩ : S28) )) (Reps.c2 (show Kd.M k28 _ _ _ (⟨0, 0⟩ : S28) [.int .i64 0, .int .i64 0] from (k28_mkM _ _ _ (⟨0, 0⟩ : S28) )) (Reps.none _ _)))); intro v172 w19 ho20 hb hg_ hnew_; clear hg_ hnew_; (first | rw [← Ny171.out] at ho20 | (simp only [Int.reduceToNat] at ho20; rw [← Ny171.out] at ho20)); have n0_ := Aside0.mk (Kd.R_elder' (by (with_reducible repeat (first | apply Kd.R_alloc | apply Kd.R_drewN | apply Kd.R_drew)); exact HO163.out) (Kd.R_base ho20) hb); have n1_ := Aside0.mk (Kd.R_elder' (by (with_reducible repeat (first | apply Kd.R_alloc | apply Kd.R_drewN | apply Kd.R_drew)); exact HO166.out) (Kd.R_base ho20) hb); have n2_ := Aside0.mk (Kd.R_lower (Kd.R_new' (Kd.R_new' ho20 (Kd.R_lt (by (with_reducible repeat (first | apply Kd.R_alloc | apply Kd.R_drewN | apply Kd.R_drew)); exact HO163.out))) (Kd.R_lt (by (with_reducible repeat (first | apply Kd.R_alloc | apply Kd.R_drewN | apply Kd.R_drew)); exact HO166.out))) (below_size (by repeat (first | (with_reducible first | exact HB.out | apply below_alloc | apply pw_below_drewN | apply below_drew1) | exact HB.out)))); have n3_ := Aside0.mk (below_step (by repeat (first | (with_reducible first | exact HB.out | apply below_alloc | apply pw_below_drewN | apply below_drew1) | exact HB.out)) hb); clear HO163; clear HO166; clear HB; have HO163 := n0_; have HO166 := n1_; have HO173 := n2_; have HB := n3_; clear n0_ n1_ n2_ n3_; clear hb ho20; obtain ⟨Ao21, co21, eo21⟩ := Kd.R_slice HO163.out; subst eo21; obtain ⟨Ao22, co22, eo22⟩ := Kd.R_slice HO173.out; subst eo22) | (go_at_call 26; (with_reducible refine (postbaglaw4_same.calls k _ _ t160 _ _ y171 false _ ?side1 ?side2 ?side3 ?side4 A13.out).mono ?_); (case side1 => repeat (first | exact (Kd.R_reads' HO163.out).2.2 | (with_reducible refine Kd.C_alloc ?_ _) | (with_reducible refine Kd.C_drewN ?_ _) | (with_reducible refine Kd.C_drew ?_))); (case side2 => exact (Kd.R_reads' HO163.out).2.1); (case side3 => repeat (first | exact (Kd.R_reads' HO173.out).2.2 | (with_reducible refine Kd.C_alloc ?_ _) | (with_reducible refine Kd.C_drewN ?_ _) | (with_reducible refine Kd.C_drew ?_))); (case side4 => exact (Kd.R_reads' HO173.out).2.1); rintro e w' ⟨rfl, ⟨nd, rfl⟩⟩))
     go_meet
     case rel => exact ⟨_, (true), (by first | rfl | (simp; done) | (simp [*]; done)), H', ⟨by first | omega | exact Nat.le_refl _⟩, ⟨by (with_reducible repeat (first | apply Kd.R_alloc | apply Kd.R_drewN | apply Kd.R_drew)); exact Kd.R_mono HO163.out (fun _ hk => trivial)⟩, ⟨by repeat (first | (with_reducible first | exact HB.out | apply below_alloc | apply pw_below_drewN | apply below_drew1) | exact HB.out)⟩⟩
   ·rw [if_neg c12] at H
    have c12b0 : (t170 == 0) = false := beq_eq_false_iff_ne.mpr c12
    have c12b1 : (t170 != 0) = true := bne_iff_ne.mpr c12
    have H' := Aside0.mk H
    clear H
    go_wp2_with (first | ((with_reducible refine gate_callee (f := 34) rfl ?_); refine goesL_ (some 18) rfl rfl Tryd.func34 (by kernel_rfl) rfl #[.int .i64 t161] rfl (by (try simp only [List.map_toArray, List.map_cons, List.map_nil]); first | done | rfl | (simp only [List.length_drop, List.length_take]; rfl)) ?_; (with_reducible refine (postbaglaw4_num.calls t161 t169 _ A9.out).mono ?_); rintro e w' ⟨rfl, ⟨nd, rfl⟩⟩; refine ⟨_, rfl, ?_⟩) | (go_at_call 34; (with_reducible refine (postbaglaw4_num.calls t168 t170 _ A11.out).mono ?_); rintro e w' ⟨rfl, ⟨nd, rfl⟩⟩))
    go_meet
    case rel => exact ⟨_, (true), (by first | rfl | (simp; done) | (simp [*]; done)), H', ⟨by first | omega | exact Nat.le_refl _⟩, ⟨by (with_reducible repeat (first | apply Kd.R_alloc | apply Kd.R_drewN | apply Kd.R_drew)); exact Kd.R_mono HO163.out (fun _ hk => trivial)⟩, ⟨by repeat (first | (with_reducible first | exact HB.out | apply below_alloc | apply pw_below_drewN | apply below_drew1) | exact HB.out)⟩⟩
  ·rw [if_neg c10] at H
   have c10b0 : (t169 == 0) = false := beq_eq_false_iff_ne.mpr c10
   have c10b1 : (t169 != 0) = true := bne_iff_ne.mpr c10
   (first | rw [c10b0] | (simp only [i64_w, i32_w]; rw [c10b0]) | skip)
   have H' := Aside0.mk H
   clear H
   go_wp2_with (first | ((with_reducible refine gate_callee (f := 34) rfl ?_); refine goesL_ (some 18) rfl rfl Tryd.func34 (by kernel_rfl) rfl #[.int .i64 t161] rfl (by (try simp only [List.map_toArray, List.map_cons, List.map_nil]); first | done | rfl | (simp only [List.length_drop, List.length_take]; rfl)) ?_; (with_reducible refine (postbaglaw4_num.calls t161 t169 _ A9.out).mono ?_); rintro e w' ⟨rfl, ⟨nd, rfl⟩⟩; refine ⟨_, rfl, ?_⟩))
   go_meet
   case rel => exact ⟨_, (true), (by first | rfl | (simp; done) | (simp [*]; done)), H', ⟨by first | omega | exact Nat.le_refl _⟩, ⟨by (with_reducible repeat (first | apply Kd.R_alloc | apply Kd.R_drewN | apply Kd.R_drew)); exact Kd.R_mono HO163.out (fun _ hk => trivial)⟩, ⟨by repeat (first | (with_reducible first | exact HB.out | apply below_alloc | apply pw_below_drewN | apply below_drew1) | exact HB.out)⟩⟩
 case rest =>
  clear HC3
  try clear c1
  try clear c2
  try clear p2
  try clear c3
  try clear c10
  try clear c10b0
  try clear c10b1
  try clear c12
  try clear c12b0
  try clear c12b1
  try clear c14
  try clear c20
  obtain ⟨kq, x36_2, rfl, HA, HJ2, HO_1, HB⟩ := hcut
  cases kq with
  | zero => exact absurd HA.out (by simp [postbaglaw4_known.j0])
  | succ kj2 =>
   have H := HA.out
   clear HA
   simp only [postbaglaw4_known.j0] at H
   by_cases c23 : x36_2 = true
   ·subst c23
    have H1 : (some false) = some r := by rw [if_pos rfl] at H; exact H
    clear H
    have H := H1
    clear H1
    obtain rfl := Option.some.inj H
    go_wp2
    go_ret
    exact ⟨by first | rfl | (simp [errW_none, errW_some] <;> rfl) | (simp [*, errW_none, errW_some] <;> rfl), by repeat (first | (with_reducible first | exact HB.out | apply below_alloc | apply pw_below_drewN | apply below_drew1) | exact HB.out)⟩
   ·replace c23 := Bool.eq_false_iff.mpr c23
    subst c23
    have H1 : ((span_Of.f kj2 (([(⟨20, 0⟩ : S28)] : List (S28))) (([1, 9] : List Int))).bind fun t181 => ((span_Has.f t160 3 9).bind fun t184 => (if t184 = true then ((span_Has.f t160 5 9).bind fun t185 => (if t185 = true then (some false) else (if (t181.length : Int) = 1 then (if 0 < (t181.length : Int) then (if (rd t181 0) = 9 then ((span_Least.f kj2 (([4, 3, 7] : List Int))).bind fun t190 => ((postbaglaw4_same.f kj2 t190 (([(⟨3, 4⟩ : S28), (⟨7, 7⟩ : S28)] : List (S28)))).bind fun t196 => (if t196 = true then ((span_Join.f kj2 (([(([(⟨3, 0⟩ : S28)] : List (S28))), t160] : List (List (S28))))).bind fun t203 => ((postbaglaw4_same.f kj2 t203 (([(⟨2, 4⟩ : S28), (⟨3, 0⟩ : S28)] : List (S28)))).bind fun t209 => (some t209))) else (some false)))) else (some false)) else (none)) else (some false)))) else (some false)))) = some r := by rw [if_neg (show ¬ (false = true) by decide)] at H; exact H
    clear H
    have H := H1
    clear H1
    obtain ⟨y175, hy175⟩ : ∃ y_ : List (S28), y_ = (([(⟨20, 0⟩ : S28)] : List (S28))) := ⟨_, rfl⟩
    replace H : ((span_Of.f kj2 y175 (([1, 9] : List Int))).bind fun t181 => ((span_Has.f t160 3 9).bind fun t184 => (if t184 = true then ((span_Has.f t160 5 9).bind fun t185 => (if t185 = true then (some false) else (if (t181.length : Int) = 1 then (if 0 < (t181.length : Int) then (if (rd t181 0) = 9 then ((span_Least.f kj2 (([4, 3, 7] : List Int))).bind fun t190 => ((postbaglaw4_same.f kj2 t190 (([(⟨3, 4⟩ : S28), (⟨7, 7⟩ : S28)] : List (S28)))).bind fun t196 => (if t196 = true then ((span_Join.f kj2 (([(([(⟨3, 0⟩ : S28)] : List (S28))), t160] : List (List (S28))))).bind fun t203 => ((postbaglaw4_same.f kj2 t203 (([(⟨2, 4⟩ : S28), (⟨3, 0⟩ : S28)] : List (S28)))).bind fun t209 => (some t209))) else (some false)))) else (some false)) else (none)) else (some false)))) else (some false)))) = some r := by first | (rw [hy175]; with_reducible exact H) | (have H2_ := (Option.bind_some _ _).symm.trans H; rw [hy175]; with_reducible exact H2_) | (have H2_ := (Option.bind_some _ _).symm.trans H; with_reducible exact H2_) | with_reducible exact H | (rw [hy175]; exact H) | exact H
    have Ny175 := Aside0.mk hy175
    clear hy175
    obtain ⟨y178, hy178⟩ : ∃ y_ : List Int, y_ = (([1, 9] : List Int)) := ⟨_, rfl⟩
    replace H : ((span_Of.f kj2 y175 y178).bind fun t181 => ((span_Has.f t160 3 9).bind fun t184 => (if t184 = true then ((span_Has.f t160 5 9).bind fun t185 => (if t185 = true then (some false) else (if (t181.length : Int) = 1 then (if 0 < (t181.length : Int) then (if (rd t181 0) = 9 then ((span_Least.f kj2 (([4, 3, 7] : List Int))).bind fun t190 => ((postbaglaw4_same.f kj2 t190 (([(⟨3, 4⟩ : S28), (⟨7, 7⟩ : S28)] : List (S28)))).bind fun t196 => (if t196 = true then ((span_Join.f kj2 (([(([(⟨3, 0⟩ : S28)] : List (S28))), t160] : List (List (S28))))).bind fun t203 => ((postbaglaw4_same.f kj2 t203 (([(⟨2, 4⟩ : S28), (⟨3, 0⟩ : S28)] : List (S28)))).bind fun t209 => (some t209))) else (some false)))) else (some false)) else (none)) else (some false)))) else (some false)))) = some r := by first | (rw [hy178]; with_reducible exact H) | (have H2_ := (Option.bind_some _ _).symm.trans H; rw [hy178]; with_reducible exact H2_) | (have H2_ := (Option.bind_some _ _).symm.trans H; with_reducible exact H2_) | with_reducible exact H | (rw [hy178]; exact H) | exact H
    have Ny178 := Aside0.mk hy178
    clear hy178
    replace H := Option.bind_eq_some_iff.mp H
    obtain ⟨t181, A240, H⟩ := H
    replace H : ((span_Has.f t160 3 9).bind fun t184 => (if t184 = true then ((span_Has.f t160 5 9).bind fun t185 => (if t185 = true then (some false) else (if (t181.length : Int) = 1 then (if 0 < (t181.length : Int) then (if (rd t181 0) = 9 then ((span_Least.f kj2 (([4, 3, 7] : List Int))).bind fun t190 => ((postbaglaw4_same.f kj2 t190 (([(⟨3, 4⟩ : S28), (⟨7, 7⟩ : S28)] : List (S28)))).bind fun t196 => (if t196 = true then ((span_Join.f kj2 (([(([(⟨3, 0⟩ : S28)] : List (S28))), t160] : List (List (S28))))).bind fun t203 => ((postbaglaw4_same.f kj2 t203 (([(⟨2, 4⟩ : S28), (⟨3, 0⟩ : S28)] : List (S28)))).bind fun t209 => (some t209))) else (some false)))) else (some false)) else (none)) else (some false)))) else (some false))) = some r := H
    have A24 := Aside0.mk A240
    clear A240
    replace H := Option.bind_eq_some_iff.mp H
    obtain ⟨t184, A250, H⟩ := H
    replace H : (if t184 = true then ((span_Has.f t160 5 9).bind fun t185 => (if t185 = true then (some false) else (if (t181.length : Int) = 1 then (if 0 < (t181.length : Int) then (if (rd t181 0) = 9 then ((span_Least.f kj2 (([4, 3, 7] : List Int))).bind fun t190 => ((postbaglaw4_same.f kj2 t190 (([(⟨3, 4⟩ : S28), (⟨7, 7⟩ : S28)] : List (S28)))).bind fun t196 => (if t196 = true then ((span_Join.f kj2 (([(([(⟨3, 0⟩ : S28)] : List (S28))), t160] : List (List (S28))))).bind fun t203 => ((postbaglaw4_same.f kj2 t203 (([(⟨2, 4⟩ : S28), (⟨3, 0⟩ : S28)] : List (S28)))).bind fun t209 => (some t209))) else (some false)))) else (some false)) else (none)) else (some false)))) else (some false)) = some r := H
    have A25 := Aside0.mk A250
    clear A250
    by_cases c26 : t184 = true
    ·subst c26
     have H1 : ((span_Has.f t160 5 9).bind fun t185 => (if t185 = true then (some false) else (if (t181.length : Int) = 1 then (if 0 < (t181.length : Int) then (if (rd t181 0) = 9 then ((span_Least.f kj2 (([4, 3, 7] : List Int))).bind fun t190 => ((postbaglaw4_same.f kj2 t190 (([(⟨3, 4⟩ : S28), (⟨7, 7⟩ : S28)] : List (S28)))).bind fun t196 => (if t196 = true then ((span_Join.f kj2 (([(([(⟨3, 0⟩ : S28)] : List (S28))), t160] : List (List (S28))))).bind fun t203 => ((postbaglaw4_same.f kj2 t203 (([(⟨2, 4⟩ : S28), (⟨3, 0⟩ : S28)] : List (S28)))).bind fun t209 => (some t209))) else (some false)))) else (some false)) else (none)) else (some false)))) = some r := by rw [if_pos rfl] at H; exact H
     clear H
     have H := H1
     clear H1
     replace H := Option.bind_eq_some_iff.mp H
     obtain ⟨t185, A270, H⟩ := H
     replace H : (if t185 = true then (some false) else (if (t181.length : Int) = 1 then (if 0 < (t181.length : Int) then (if (rd t181 0) = 9 then ((span_Least.f kj2 (([4, 3, 7] : List Int))).bind fun t190 => ((postbaglaw4_same.f kj2 t190 (([(⟨3, 4⟩ : S28), (⟨7, 7⟩ : S28)] : List (S28)))).bind fun t196 => (if t196 = true then ((span_Join.f kj2 (([(([(⟨3, 0⟩ : S28)] : List (S28))), t160] : List (List (S28))))).bind fun t203 => ((postbaglaw4_same.f kj2 t203 (([(⟨2, 4⟩ : S28), (⟨3, 0⟩ : S28)] : List (S28)))).bind fun t209 => (some t209))) else (some false)))) else (some false)) else (none)) else (some false))) = some r := H
     have A27 := Aside0.mk A270
     clear A270
     by_cases c28 : t185 = true
     ·subst c28
      have H1 : (some false) = some r := by rw [if_pos rfl] at H; exact H
      clear H
      have H := H1
      clear H1
      obtain rfl := Option.some.inj H
      go_wp2_with (first | ((with_reducible refine gate_dst (N := 38) rfl ?_); (try (refine gate_guard (by rfl) ?_; dsimp only)); refine Kd.R_lit k28 _ 28 ?hg (N := 38) ?hd (xs := ([(⟨20, 0⟩ : S28)] : List (S28))) (inner := [.int .i64 20, .int .i64 0]) (ok := fun _ => True) (okp := fun _ => True) ?hr ?hp (fun _ hk => hk) trivial (Below.refl _ _) (Nat.le_refl _) (by simp) ?_; (case hd => rfl); (case hg => rfl); (case hr => first | (go_simp; done) | (go_simp; rfl)); (case hp => exact (Reps.c2 (show Kd.M k28 _ _ _ (⟨20, 0⟩ : S28) [.int .i64 20, .int .i64 0] from (k28_mkM _ _ _ (⟨20, 0⟩ : S28) )) (Reps.none _ _))); intro v176 w29 ho30 hb hg_ hnew_; clear hg_ hnew_; (first | rw [← Ny175.out] at ho30 | (simp only [Int.reduceToNat] at ho30; rw [← Ny175.out] at ho30)); have n0_ := Aside0.mk (Kd.R_elder' (by (with_reducible repeat (first | apply Kd.R_alloc | apply Kd.R_drewN | apply Kd.R_drew)); exact HO_1.out) (Kd.R_base ho30) hb); have n1_ := Aside0.mk (Kd.R_lower (Kd.R_new' ho30 (Kd.R_lt (by (with_reducible repeat (first | apply Kd.R_alloc | apply Kd.R_drewN | apply Kd.R_drew)); exact HO_1.out))) (below_size (by repeat (first | (with_reducible first | exact HB.out | apply below_alloc | apply pw_below_drewN | apply below_drew1) | exact HB.out)))); have n2_ := Aside0.mk (below_step (by repeat (first | (with_reducible first | exact HB.out | apply below_alloc | apply pw_below_drewN | apply below_drew1) | exact HB.out)) hb); clear HO_1; clear HB; have HO_1 := n0_; have HO177 := n1_; have HB := n2_; clear n0_ n1_ n2_; clear hb ho30) | ((with_reducible refine gate_dst (N := 39) rfl ?_); (try (refine gate_guard (by rfl) ?_; dsimp only)); refine Kd.R_lit (Kd.int .i64) _ 3 ?hg (N := 39) ?hd (xs := ([1, 9] : List Int)) (inner := [.int .i64 1, .int .i64 9]) (ok := fun _ => True) (okp := fun _ => True) ?hr ?hp (fun _ hk => hk) trivial (Below.refl _ _) (Nat.le_refl _) (by simp) ?_; (case hd => rfl); (case hg => rfl); (case hr => first | (go_simp; done) | (go_simp; rfl)); (case hp => exact (Reps.one (show Kd.M (Kd.int .i64) _ _ _ 1 [.int .i64 1] from rfl) (Reps.one (show Kd.M (Kd.int .i64) _ _ _ 9 [.int .i64 9] from rfl) (Reps.none _ _)))); intro v179 w31 ho32 hb hg_ hnew_; clear hg_ hnew_; (first | rw [← Ny178.out] at ho32 | (simp only [Int.reduceToNat] at ho32; rw [← Ny178.out] at ho32)); have n0_ := Aside0.mk (Kd.R_below (by (with_reducible repeat (first | apply Kd.R_alloc | apply Kd.R_drewN | apply Kd.R_drew)); exact HO_1.out) hb); have n1_ := Aside0.mk (Kd.R_below (by (with_reducible repeat (first | apply Kd.R_alloc | apply Kd.R_drewN | apply Kd.R_drew)); exact HO177.out) hb); have n2_ := Aside0.mk (Kd.R_lower ho32 (below_size (by repeat (first | (with_reducible first | exact HB.out | apply below_alloc | apply pw_below_drewN | apply below_drew1) | exact HB.out)))); have n3_ := Aside0.mk (below_step (by repeat (first | (with_reducible first | exact HB.out | apply below_alloc | apply pw_below_drewN | apply below_drew1) | exact HB.out)) hb); clear HO_1; clear HO177; clear HB; have HO_1 := n0_; have HO177 := n1_; have HO180 := n2_; have HB := n3_; clear n0_ n1_ n2_ n3_; clear hb ho32; obtain ⟨Ao33, co33, eo33⟩ := Kd.R_slice HO177.out; subst eo33; obtain ⟨Ao34, co34, eo34⟩ := Kd.R_slice HO180.out; subst eo34) | ((with_reducible refine gate_callee (f := 19) rfl ?_); refine goesL_ (some 40) rfl rfl Tryd.func19 (by kernel_rfl) rfl #[.slice Ao33 y175.length co33, .slice Ao34 y178.length co34] rfl (by (try simp only [List.map_toArray, List.map_cons, List.map_nil]); first | done | rfl | (simp only [List.length_drop, List.length_take]; rfl)) ?_; (with_reducible refine (span_Of.calls kj2 _ _ y175 _ _ y178 t181 _ ?side1 ?side2 ?side3 ?side4 A24.out).mono ?_); (case side1 => repeat (first | exact (Kd.R_reads' HO177.out).2.2 | (with_reducible refine Kd.C_alloc ?_ _) | (with_reducible refine Kd.C_drewN ?_ _) | (with_reducible refine Kd.C_drew ?_))); (case side2 => exact (Kd.R_reads' HO177.out).2.1); (case side3 => repeat (first | exact (Kd.R_reads' HO180.out).2.2 | (with_reducible refine Kd.C_alloc ?_ _) | (with_reducible refine Kd.C_drewN ?_ _) | (with_reducible refine Kd.C_drew ?_))); (case side4 => exact (Kd.R_reads' HO180.out).2.1); rintro e w35 ⟨v182, rfl, ho0, hb⟩; refine ⟨_, rfl, ?_⟩; have n0_ := Aside0.mk (Kd.R_below (by (with_reducible repeat (first | apply Kd.R_alloc | apply Kd.R_drewN | apply Kd.R_drew)); exact HO_1.out) hb); have n1_ := Aside0.mk (Kd.R_below (by (with_reducible repeat (first | apply Kd.R_alloc | apply Kd.R_drewN | apply Kd.R_drew)); exact HO177.out) hb); have n2_ := Aside0.mk (Kd.R_elder' (by (with_reducible repeat (first | apply Kd.R_alloc | apply Kd.R_drewN | apply Kd.R_drew)); exact HO180.out) (Kd.R_base ho0) hb); have n3_ := Aside0.mk (Kd.R_lower (Kd.R_new' ho0 (Kd.R_lt (by (with_reducible repeat (first | apply Kd.R_alloc | apply Kd.R_drewN | apply Kd.R_drew)); exact HO180.out))) (below_size (by repeat (first | (with_reducible first | exact HB.out | apply below_alloc | apply pw_below_drewN | apply below_drew1) | exact HB.out)))); have n4_ := Aside0.mk (below_step (by repeat (first | (with_reducible first | exact HB.out | apply below_alloc | apply pw_below_drewN | apply below_drew1) | exact HB.out)) hb); clear HO_1; clear HO177; clear HO180; clear HB; have HO_1 := n0_; have HO177 := n1_; have HO180 := n2_; have HO183 := n3_; have HB := n4_; clear n0_ n1_ n2_ n3_ n4_; (try clear hb); (try clear hb2); (try clear hk); (try clear hi); (try clear ho0); obtain ⟨Ao36, co36, eo36⟩ := Kd.R_slice HO_1.out; subst eo36) | ((with_reducible refine gate_callee (f := 17) rfl ?_); refine goesL_ (some 42) rfl rfl Tryd.func17 (by kernel_rfl) rfl #[.slice Ao36 t160.length co36, .int .i64 3, .int .i64 9] rfl (by (try simp only [List.map_toArray, List.map_cons, List.map_nil]); first | done | rfl | (simp only [List.length_drop, List.length_take]; rfl)) ?_; (with_reducible refine (span_Has.calls _ _ t160 3 9 true _ ?side1 ?side2 A25.out).mono ?_); (case side1 => repeat (first | exact (Kd.R_reads' HO_1.out).2.2 | (with_reducible refine Kd.C_alloc ?_ _) | (with_reducible refine Kd.C_drewN ?_ _) | (with_reducible refine Kd.C_drew ?_))); (case side2 => exact (Kd.R_reads' HO_1.out).2.1); rintro e w37 ⟨rfl, hb⟩; refine ⟨_, rfl, ?_⟩; have n0_ := Aside0.mk (Kd.R_below (by (with_reducible repeat (first | apply Kd.R_alloc | apply Kd.R_drewN | apply Kd.R_drew)); exact HO_1.out) hb); have n1_ := Aside0.mk (Kd.R_below (by (with_reducible repeat (first | apply Kd.R_alloc | apply Kd.R_drewN | apply Kd.R_drew)); exact HO177.out) hb); have n2_ := Aside0.mk (Kd.R_below (by (with_reducible repeat (first | apply Kd.R_alloc | apply Kd.R_drewN | apply Kd.R_drew)); exact HO180.out) hb); have n3_ := Aside0.mk (Kd.R_below (by (with_reducible repeat (first | apply Kd.R_alloc | apply Kd.R_drewN | apply Kd.R_drew)); exact HO183.out) hb); have n4_ := Aside0.mk (below_step (by repeat (first | (with_reducible first | exact HB.out | apply below_alloc | apply pw_below_drewN | apply below_drew1) | exact HB.out)) hb); clear HO_1; clear HO177; clear HO180; clear HO183; clear HB; have HO_1 := n0_; have HO177 := n1_; have HO180 := n2_; have HO183 := n3_; have HB := n4_; clear n0_ n1_ n2_ n3_ n4_; (try clear hb); (try clear hb2); (try clear hk); (try clear hi)) | (go_at_call 17; (with_reducible refine (span_Has.calls _ _ t160 5 9 true _ ?side1 ?side2 A27.out).mono ?_); (case side1 => repeat (first | exact (Kd.R_reads' HO_1.out).2.2 | (with_reducible refine Kd.C_alloc ?_ _) | (with_reducible refine Kd.C_drewN ?_ _) | (with_reducible refine Kd.C_drew ?_))); (case side2 => exact (Kd.R_reads' HO_1.out).2.1); rintro e w38 ⟨rfl, hb⟩; have n0_ := Aside0.mk (Kd.R_below (by (with_reducible repeat (first | apply Kd.R_alloc | apply Kd.R_drewN | apply Kd.R_drew)); exact HO_1.out) hb); have n1_ := Aside0.mk (Kd.R_below (by (with_reducible repeat (first | apply Kd.R_alloc | apply Kd.R_drewN | apply Kd.R_drew)); exact HO177.out) hb); have n2_ := Aside0.mk (Kd.R_below (by (with_reducible repeat (first | apply Kd.R_alloc | apply Kd.R_drewN | apply Kd.R_drew)); exact HO180.out) hb); have n3_ := Aside0.mk (Kd.R_below (by (with_reducible repeat (first | apply Kd.R_alloc | apply Kd.R_drewN | apply Kd.R_drew)); exact HO183.out) hb); have n4_ := Aside0.mk (below_step (by repeat (first | (with_reducible first | exact HB.out | apply below_alloc | apply pw_below_drewN | apply below_drew1) | exact HB.out)) hb); clear HO_1; clear HO177; clear HO180; clear HO183; clear HB; have HO_1 := n0_; have HO177 := n1_; have HO180 := n2_; have HO183 := n3_; have HB := n4_; clear n0_ n1_ n2_ n3_ n4_; (try clear hb); (try clear hb2); (try clear hk); (try clear hi)))
      go_ret
      exact ⟨by first | rfl | (simp [errW_none, errW_some] <;> rfl) | (simp [*, errW_none, errW_some] <;> rfl), by repeat (first | (with_reducible first | exact HB.out | apply below_alloc | apply pw_below_drewN | apply below_drew1) | exact HB.out)⟩
     ·replace c28 := Bool.eq_false_iff.mpr c28
      subst c28
      have H1 : (if (t181.length : Int) = 1 then (if 0 < (t181.length : Int) then (if (rd t181 0) = 9 then ((span_Least.f kj2 (([4, 3, 7] : List Int))).bind fun t190 => ((postbaglaw4_same.f kj2 t190 (([(⟨3, 4⟩ : S28), (⟨7, 7⟩ : S28)] : List (S28)))).bind fun t196 => (if t196 = true then ((span_Join.f kj2 (([(([(⟨3, 0⟩ : S28)] : List (S28))), t160] : List (List (S28))))).bind fun t203 => ((postbaglaw4_same.f kj2 t203 (([(⟨2, 4⟩ : S28), (⟨3, 0⟩ : S28)] : List (S28)))).bind fun t209 => (some t209))) else (some false)))) else (some false)) else (none)) else (some false)) = some r := by rw [if_neg (show ¬ (false = true) by decide)] at H; exact H
      clear H
      have H := H1
      clear H1
      by_cases c39 : (t181.length : Int) = 1
      ·rw [if_pos c39] at H
       have c39b0 : ((t181.length : Int) == 1) = true := beq_iff_eq.mpr c39
       have c39b1 : ((t181.length : Int) != 1) = false := bne_eq_false_iff_eq.mpr c39
       clear c39
       by_cases c40 : 0 < (t181.length : Int)
       ·rw [if_pos c40] at H
        have c40b0 : decide (0 < (t181.length : Int)) = true := decide_eq_true c40
        have c40b1 : decide (0 < t181.length) = true := decide_eq_true (by omega)
        clear c40
        by_cases c41 : (rd t181 0) = 9
        ·rw [if_pos c41] at H
         have c41b0 : ((rd t181 0) == 9) = true := beq_iff_eq.mpr c41
         have c41b1 : ((rd t181 0) != 9) = false := bne_eq_false_iff_eq.mpr c41
         clear c41
         obtain ⟨y187, hy187⟩ : ∃ y_ : List Int, y_ = (([4, 3, 7] : List Int)) := ⟨_, rfl⟩
         replace H : ((span_Least.f kj2 y187).bind fun t190 => ((postbaglaw4_same.f kj2 t190 (([(⟨3, 4⟩ : S28), (⟨7, 7⟩ : S28)] : List (S28)))).bind fun t196 => (if t196 = true then ((span_Join.f kj2 (([(([(⟨3, 0⟩ : S28)] : List (S28))), t160] : List (List (S28))))).bind fun t203 => ((postbaglaw4_same.f kj2 t203 (([(⟨2, 4⟩ : S28), (⟨3, 0⟩ : S28)] : List (S28)))).bind fun t209 => (some t209))) else (some false)))) = some r := by first | (rw [hy187]; with_reducible exact H) | (have H2_ := (Option.bind_some _ _).symm.trans H; rw [hy187]; with_reducible exact H2_) | (have H2_ := (Option.bind_some _ _).symm.trans H; with_reducible exact H2_) | with_reducible exact H | (rw [hy187]; exact H) | exact H
         have Ny187 := Aside0.mk hy187
         clear hy187
         replace H := Option.bind_eq_some_iff.mp H
         obtain ⟨t190, A420, H⟩ := H
         replace H : ((postbaglaw4_same.f kj2 t190 (([(⟨3, 4⟩ : S28), (⟨7, 7⟩ : S28)] : List (S28)))).bind fun t196 => (if t196 = true then ((span_Join.f kj2 (([(([(⟨3, 0⟩ : S28)] : List (S28))), t160] : List (List (S28))))).bind fun t203 => ((postbaglaw4_same.f kj2 t203 (([(⟨2, 4⟩ : S28), (⟨3, 0⟩ : S28)] : List (S28)))).bind fun t209 => (some t209))) else (some false))) = some r := H
         have A42 := Aside0.mk A420
         clear A420
         obtain ⟨y193, hy193⟩ : ∃ y_ : List (S28), y_ = (([(⟨3, 4⟩ : S28), (⟨7, 7⟩ : S28)] : List (S28))) := ⟨_, rfl⟩
         replace H : ((postbaglaw4_same.f kj2 t190 y193).bind fun t196 => (if t196 = true then ((span_Join.f kj2 (([(([(⟨3, 0⟩ : S28)] : List (S28))), t160] : List (List (S28))))).bind fun t203 => ((postbaglaw4_same.f kj2 t203 (([(⟨2, 4⟩ : S28), (⟨3, 0⟩ : S28)] : List (S28)))).bind fun t209 => (some t209))) else (some false))) = some r := by first | (rw [hy193]; with_reducible exact H) | (have H2_ := (Option.bind_some _ _).symm.trans H; rw [hy193]; with_reducible exact H2_) | (have H2_ := (Option.bind_some _ _).symm.trans H; with_reducible exact H2_) | with_reducible exact H | (rw [hy193]; exact H) | exact H
         have Ny193 := Aside0.mk hy193
         clear hy193
         replace H := Option.bind_eq_some_iff.mp H
         obtain ⟨t196, A430, H⟩ := H
         replace H : (if t196 = true then ((span_Join.f kj2 (([(([(⟨3, 0⟩ : S28)] : List (S28))), t160] : List (List (S28))))).bind fun t203 => ((postbaglaw4_same.f kj2 t203 (([(⟨2, 4⟩ : S28), (⟨3, 0⟩ : S28)] : List (S28)))).bind fun t209 => (some t209))) else (some false)) = some r := H
         have A43 := Aside0.mk A430
         clear A430
         by_cases c44 : t196 = true
         ·subst c44
          have H1 : ((span_Join.f kj2 (([(([(⟨3, 0⟩ : S28)] : List (S28))), t160] : List (List (S28))))).bind fun t203 => ((postbaglaw4_same.f kj2 t203 (([(⟨2, 4⟩ : S28), (⟨3, 0⟩ : S28)] : List (S28)))).bind fun t209 => (some t209))) = some r := by rw [if_pos rfl] at H; exact H
          clear H
          have H := H1
          clear H1
          obtain ⟨y197, hy197⟩ : ∃ y_ : List (S28), y_ = (([(⟨3, 0⟩ : S28)] : List (S28))) := ⟨_, rfl⟩
          replace H : ((span_Join.f kj2 (([y197, t160] : List (List (S28))))).bind fun t203 => ((postbaglaw4_same.f kj2 t203 (([(⟨2, 4⟩ : S28), (⟨3, 0⟩ : S28)] : List (S28)))).bind fun t209 => (some t209))) = some r := by first | (rw [hy197]; with_reducible exact H) | (have H2_ := (Option.bind_some _ _).symm.trans H; rw [hy197]; with_reducible exact H2_) | (have H2_ := (Option.bind_some _ _).symm.trans H; with_reducible exact H2_) | with_reducible exact H | (rw [hy197]; exact H) | exact H
          have Ny197 := Aside0.mk hy197
          clear hy197
          obtain ⟨y200, hy200⟩ : ∃ y_ : List (List (S28)), y_ = (([y197, t160] : List (List (S28)))) := ⟨_, rfl⟩
          replace H : ((span_Join.f kj2 y200).bind fun t203 => ((postbaglaw4_same.f kj2 t203 (([(⟨2, 4⟩ : S28), (⟨3, 0⟩ : S28)] : List (S28)))).bind fun t209 => (some t209))) = some r := by first | (rw [hy200]; with_reducible exact H) | (have H2_ := (Option.bind_some _ _).symm.trans H; rw [hy200]; with_reducible exact H2_) | (have H2_ := (Option.bind_some _ _).symm.trans H; with_reducible exact H2_) | with_reducible exact H | (rw [hy200]; exact H) | exact H
          have Ny200 := Aside0.mk hy200
          clear hy200
          replace H := Option.bind_eq_some_iff.mp H
          obtain ⟨t203, A450, H⟩ := H
          replace H : ((postbaglaw4_same.f kj2 t203 (([(⟨2, 4⟩ : S28), (⟨3, 0⟩ : S28)] : List (S28)))).bind fun t209 => (some t209)) = some r := H
          have A45 := Aside0.mk A450
          clear A450
          obtain ⟨y206, hy206⟩ : ∃ y_ : List (S28), y_ = (([(⟨2, 4⟩ : S28), (⟨3, 0⟩ : S28)] : List (S28))) := ⟨_, rfl⟩
          replace H : ((postbaglaw4_same.f kj2 t203 y206).bind fun t209 => (some t209)) = some r := by first | (rw [hy206]; with_reducible exact H) | (have H2_ := (Option.bind_some _ _).symm.trans H; rw [hy206]; with_reducible exact H2_) | (have H2_ := (Option.bind_some _ _).symm.trans H; with_reducible exact H2_) | with_reducible exact H | (rw [hy206]; exact H) | exact H
          have Ny206 := Aside0.mk hy206
          clear hy206
          replace H := Option.bind_eq_some_iff.mp H
          obtain ⟨t209, A460, H⟩ := H
          replace H : (some t209) = some r := H
          have A46 := Aside0.mk A460
          clear A460
          obtain rfl := Option.some.inj H
          go_wp2_with (first | ((with_reducible refine gate_dst (N := 38) rfl ?_); (try (refine gate_guard (by rfl) ?_; dsimp only)); refine Kd.R_lit k28 _ 28 ?hg (N := 38) ?hd (xs := ([(⟨20, 0⟩ : S28)] : List (S28))) (inner := [.int .i64 20, .int .i64 0]) (ok := fun _ => True) (okp := fun _ => True) ?hr ?hp (fun _ hk => hk) trivial (Below.refl _ _) (Nat.le_refl _) (by simp) ?_; (case hd => rfl); (case hg => rfl); (case hr => first | (go_simp; done) | (go_simp; rfl)); (case hp => exact (Reps.c2 (show Kd.M k28 _ _ _ (⟨20, 0⟩ : S28) [.int .i64 20, .int .i64 0] from (k28_mkM _ _ _ (⟨20, 0⟩ : S28) )) (Reps.none _ _))); intro v176 w47 ho48 hb hg_ hnew_; clear hg_ hnew_; (first | rw [← Ny175.out] at ho48 | (simp only [Int.reduceToNat] at ho48; rw [← Ny175.out] at ho48)); have n0_ := Aside0.mk (Kd.R_elder' (by (with_reducible repeat (first | apply Kd.R_alloc | apply Kd.R_drewN | apply Kd.R_drew)); exact HO_1.out) (Kd.R_base ho48) hb); have n1_ := Aside0.mk (Kd.R_lower (Kd.R_new' ho48 (Kd.R_lt (by (with_reducible repeat (first | apply Kd.R_alloc | apply Kd.R_drewN | apply Kd.R_drew)); exact HO_1.out))) (below_size (by repeat (first | (with_reducible first | exact HB.out | apply below_alloc | apply pw_below_drewN | apply below_drew1) | exact HB.out)))); have n2_ := Aside0.mk (below_step (by repeat (first | (with_reducible first | exact HB.out | apply below_alloc | apply pw_below_drewN | apply below_drew1) | exact HB.out)) hb); clear HO_1; clear HB; have HO_1 := n0_; have HO177 := n1_; have HB := n2_; clear n0_ n1_ n2_; clear hb ho48) | ((with_reducible refine gate_dst (N := 39) rfl ?_); (try (refine gate_guard (by rfl) ?_; dsimp only)); refine Kd.R_lit (Kd.int .i64) _ 3 ?hg (N := 39) ?hd (xs := ([1, 9] : List Int)) (inner := [.int .i64 1, .int .i64 9]) (ok := fun _ => True) (okp := fun _ => True) ?hr ?hp (fun _ hk => hk) trivial (Below.refl _ _) (Nat.le_refl _) (by simp) ?_; (case hd => rfl); (case hg => rfl); (case hr => first | (go_simp; done) | (go_simp; rfl)); (case hp => exact (Reps.one (show Kd.M (Kd.int .i64) _ _ _ 1 [.int .i64 1] from rfl) (Reps.one (show Kd.M (Kd.int .i64) _ _ _ 9 [.int .i64 9] from rfl) (Reps.none _ _)))); intro v179 w49 ho50 hb hg_ hnew_; clear hg_ hnew_; (first | rw [← Ny178.out] at ho50 | (simp only [Int.reduceToNat] at ho50; rw [← Ny178.out] at ho50)); have n0_ := Aside0.mk (Kd.R_below (by (with_reducible repeat (first | apply Kd.R_alloc | apply Kd.R_drewN | apply Kd.R_drew)); exact HO_1.out) hb); have n1_ := Aside0.mk (Kd.R_below (by (with_reducible repeat (first | apply Kd.R_alloc | apply Kd.R_drewN | apply Kd.R_drew)); exact HO177.out) hb); have n2_ := Aside0.mk (Kd.R_lower ho50 (below_size (by repeat (first | (with_reducible first | exact HB.out | apply below_alloc | apply pw_below_drewN | apply below_drew1) | exact HB.out)))); have n3_ := Aside0.mk (below_step (by repeat (first | (with_reducible first | exact HB.out | apply below_alloc | apply pw_below_drewN | apply below_drew1) | exact HB.out)) hb); clear HO_1; clear HO177; clear HB; have HO_1 := n0_; have HO177 := n1_; have HO180 := n2_; have HB := n3_; clear n0_ n1_ n2_ n3_; clear hb ho50; obtain ⟨Ao51, co51, eo51⟩ := Kd.R_slice HO177.out; subst eo51; obtain ⟨Ao52, co52, eo52⟩ := Kd.R_slice HO180.out; subst eo52) | ((with_reducible refine gate_callee (f := 19) rfl ?_); refine goesL_ (some 40) rfl rfl Tryd.func19 (by kernel_rfl) rfl #[.slice Ao51 y175.length co51, .slice Ao52 y178.length co52] rfl (by (try simp only [List.map_toArray, List.map_cons, List.map_nil]); first | done | rfl | (simp only [List.length_drop, List.length_take]; rfl)) ?_; (with_reducible refine (span_Of.calls kj2 _ _ y175 _ _ y178 t181 _ ?side1 ?side2 ?side3 ?side4 A24.out).mono ?_); (case side1 => repeat (first | exact (Kd.R_reads' HO177.out).2.2 | (with_reducible refine Kd.C_alloc ?_ _) | (with_reducible refine Kd.C_drewN ?_ _) | (with_reducible refine Kd.C_drew ?_))); (case side2 => exact (Kd.R_reads' HO177.out).2.1); (case side3 => repeat (first | exact (Kd.R_reads' HO180.out).2.2 | (with_reducible refine Kd.C_alloc ?_ _) | (with_reducible refine Kd.C_drewN ?_ _) | (with_reducible refine Kd.C_drew ?_))); (case side4 => exact (Kd.R_reads' HO180.out).2.1); rintro e w53 ⟨v182, rfl, ho0, hb⟩; refine ⟨_, rfl, ?_⟩; have n0_ := Aside0.mk (Kd.R_below (by (with_reducible repeat (first | apply Kd.R_alloc | apply Kd.R_drewN | apply Kd.R_drew)); exact HO_1.out) hb); have n1_ := Aside0.mk (Kd.R_below (by (with_reducible repeat (first | apply Kd.R_alloc | apply Kd.R_drewN | apply Kd.R_drew)); exact HO177.out) hb); have n2_ := Aside0.mk (Kd.R_elder' (by (with_reducible repeat (first | apply Kd.R_alloc | apply Kd.R_drewN | apply Kd.R_drew)); exact HO180.out) (Kd.R_base ho0) hb); have n3_ := Aside0.mk (Kd.R_lower (Kd.R_new' ho0 (Kd.R_lt (by (with_reducible repeat (first | apply Kd.R_alloc | apply Kd.R_drewN | apply Kd.R_drew)); exact HO180.out))) (below_size (by repeat (first | (with_reducible first | exact HB.out | apply below_alloc | apply pw_below_drewN | apply below_drew1) | exact HB.out)))); have n4_ := Aside0.mk (below_step (by repeat (first | (with_reducible first | exact HB.out | apply below_alloc | apply pw_below_drewN | apply below_drew1) | exact HB.out)) hb); clear HO_1; clear HO177; clear HO180; clear HB; have HO_1 := n0_; have HO177 := n1_; have HO180 := n2_; have HO183 := n3_; have HB := n4_; clear n0_ n1_ n2_ n3_ n4_; (try clear hb); (try clear hb2); (try clear hk); (try clear hi); (try clear ho0); obtain ⟨Ao54, co54, eo54⟩ := Kd.R_slice HO_1.out; subst eo54) | ((with_reducible refine gate_callee (f := 17) rfl ?_); refine goesL_ (some 42) rfl rfl Tryd.func17 (by kernel_rfl) rfl #[.slice Ao54 t160.length co54, .int .i64 3, .int .i64 9] rfl (by (try simp only [List.map_toArray, List.map_cons, List.map_nil]); first | done | rfl | (simp only [List.length_drop, List.length_take]; rfl)) ?_; (with_reducible refine (span_Has.calls _ _ t160 3 9 true _ ?side1 ?side2 A25.out).mono ?_); (case side1 => repeat (first | exact (Kd.R_reads' HO_1.out).2.2 | (with_reducible refine Kd.C_alloc ?_ _) | (with_reducible refine Kd.C_drewN ?_ _) | (with_reducible refine Kd.C_drew ?_))); (case side2 => exact (Kd.R_reads' HO_1.out).2.1); rintro e w55 ⟨rfl, hb⟩; refine ⟨_, rfl, ?_⟩; have n0_ := Aside0.mk (Kd.R_below (by (with_reducible repeat (first | apply Kd.R_alloc | apply Kd.R_drewN | apply Kd.R_drew)); exact HO_1.out) hb); have n1_ := Aside0.mk (Kd.R_below (by (with_reducible repeat (first | apply Kd.R_alloc | apply Kd.R_drewN | apply Kd.R_drew)); exact HO177.out) hb); have n2_ := Aside0.mk (Kd.R_below (by (with_reducible repeat (first | apply Kd.R_alloc | apply Kd.R_drewN | apply Kd.R_drew)); exact HO180.out) hb); have n3_ := Aside0.mk (Kd.R_below (by (with_reducible repeat (first | apply Kd.R_alloc | apply Kd.R_drewN | apply Kd.R_drew)); exact HO183.out) hb); have n4_ := Aside0.mk (below_step (by repeat (first | (with_reducible first | exact HB.out | apply below_alloc | apply pw_below_drewN | apply below_drew1) | exact HB.out)) hb); clear HO_1; clear HO177; clear HO180; clear HO183; clear HB; have HO_1 := n0_; have HO177 := n1_; have HO180 := n2_; have HO183 := n3_; have HB := n4_; clear n0_ n1_ n2_ n3_ n4_; (try clear hb); (try clear hb2); (try clear hk); (try clear hi)) | (go_at_call 17; (with_reducible refine (span_Has.calls _ _ t160 5 9 false _ ?side1 ?side2 A27.out).mono ?_); (case side1 => repeat (first | exact (Kd.R_reads' HO_1.out).2.2 | (with_reducible refine Kd.C_alloc ?_ _) | (with_reducible refine Kd.C_drewN ?_ _) | (with_reducible refine Kd.C_drew ?_))); (case side2 => exact (Kd.R_reads' HO_1.out).2.1); rintro e w56 ⟨rfl, hb⟩; have n0_ := Aside0.mk (Kd.R_below (by (with_reducible repeat (first | apply Kd.R_alloc | apply Kd.R_drewN | apply Kd.R_drew)); exact HO_1.out) hb); have n1_ := Aside0.mk (Kd.R_below (by (with_reducible repeat (first | apply Kd.R_alloc | apply Kd.R_drewN | apply Kd.R_drew)); exact HO177.out) hb); have n2_ := Aside0.mk (Kd.R_below (by (with_reducible repeat (first | apply Kd.R_alloc | apply Kd.R_drewN | apply Kd.R_drew)); exact HO180.out) hb); have n3_ := Aside0.mk (Kd.R_below (by (with_reducible repeat (first | apply Kd.R_alloc | apply Kd.R_drewN | apply Kd.R_drew)); exact HO183.out) hb); have n4_ := Aside0.mk (below_step (by repeat (first | (with_reducible first | exact HB.out | apply below_alloc | apply pw_below_drewN | apply below_drew1) | exact HB.out)) hb); clear HO_1; clear HO177; clear HO180; clear HO183; clear HB; have HO_1 := n0_; have HO177 := n1_; have HO180 := n2_; have HO183 := n3_; have HB := n4_; clear n0_ n1_ n2_ n3_ n4_; (try clear hb); (try clear hb2); (try clear hk); (try clear hi); obtain ⟨Ao57, co57, eo57⟩ := Kd.R_slice HO183.out; subst eo57; have p186 : 0 ≤ (0 : Int) := (by omega); have q186 : 0 < (t181.length : Int) := of_decide_eq_true (by first | (with_reducible assumption) | assumption); obtain ⟨ad186, e186, hx186_0⟩ := Kd.at_int (Kd.R_reads' HO183.out).2.2 0 p186 q186; cases e186; have qi186 : (0 < t181.length) = True := eq_true (by omega); (try rw [show ((0 : Int)).toNat = 0 from rfl] at hx186_0); (try rw [Addr.add_zero'] at hx186_0); replace p186 := eq_true p186; replace q186 := eq_true q186) | ((with_reducible refine gate_dst (N := 60) rfl ?_); (try (refine gate_guard (by rfl) ?_; dsimp only)); refine Kd.R_lit (Kd.int .i64) _ 3 ?hg (N := 60) ?hd (xs := ([4, 3, 7] : List Int)) (inner := [.int .i64 4, .int .i64 3, .int .i64 7]) (ok := fun _ => True) (okp := fun _ => True) ?hr ?hp (fun _ hk => hk) trivial (Below.refl _ _) (Nat.le_refl _) (by simp) ?_; (case hd => rfl); (case hg => rfl); (case hr => first | (go_simp; done) | (go_simp; rfl)); (case hp => exact (Reps.one (show Kd.M (Kd.int .i64) _ _ _ 4 [.int .i64 4] from rfl) (Reps.one (show Kd.M (Kd.int .i64) _ _ _ 3 [.int .i64 3] from rfl) (Reps.one (show Kd.M (Kd.int .i64) _ _ _ 7 [.int .i64 7] from rfl) (Reps.none _ _))))); intro v188 w58 ho59 hb hg_ hnew_; clear hg_ hnew_; (first | rw [← Ny187.out] at ho59 | (simp only [Int.reduceToNat] at ho59; rw [← Ny187.out] at ho59)); have n0_ := Aside0.mk (Kd.R_below (by (with_reducible repeat (first | apply Kd.R_alloc | apply Kd.R_drewN | apply Kd.R_drew)); exact HO_1.out) hb); have n1_ := Aside0.mk (Kd.R_below (by (with_reducible repeat (first | apply Kd.R_alloc | apply Kd.R_drewN | apply Kd.R_drew)); exact HO177.out) hb); have n2_ := Aside0.mk (Kd.R_elder' (by (with_reducible repeat (first | apply Kd.R_alloc | apply Kd.R_drewN | apply Kd.R_drew)); exact HO180.out) (Kd.R_base ho59) hb); have n3_ := Aside0.mk (Kd.R_elder' (by (with_reducible repeat (first | apply Kd.R_alloc | apply Kd.R_drewN | apply Kd.R_drew)); exact HO183.out) (Kd.R_base ho59) hb); have n4_ := Aside0.mk (Kd.R_lower (Kd.R_new' (Kd.R_new' ho59 (Kd.R_lt (by (with_reducible repeat (first | apply Kd.R_alloc | apply Kd.R_drewN | apply Kd.R_drew)); exact HO180.out))) (Kd.R_lt (by (with_reducible repeat (first | apply Kd.R_alloc | apply Kd.R_drewN | apply Kd.R_drew)); exact HO183.out))) (below_size (by repeat (first | (with_reducible first | exact HB.out | apply below_alloc | apply pw_below_drewN | apply below_drew1) | exact HB.out)))); have n5_ := Aside0.mk (below_step (by repeat (first | (with_reducible first | exact HB.out | apply below_alloc | apply pw_below_drewN | apply below_drew1) | exact HB.out)) hb); clear HO_1; clear HO177; clear HO180; clear HO183; clear HB; have HO_1 := n0_; have HO177 := n1_; have HO180 := n2_; have HO183 := n3_; have HO189 := n4_; have HB := n5_; clear n0_ n1_ n2_ n3_ n4_ n5_; clear hb ho59; obtain ⟨Ao60, co60, eo60⟩ := Kd.R_slice HO189.out; subst eo60) | (go_at_call 15; (with_reducible refine (span_Least.calls kj2 _ _ y187 t190 _ ?side1 ?side2 A42.out).mono ?_); (case side1 => repeat (first | exact (Kd.R_reads' HO189.out).2.2 | (with_reducible refine Kd.C_alloc ?_ _) | (with_reducible refine Kd.C_drewN ?_ _) | (with_reducible refine Kd.C_drew ?_))); (case side2 => exact (Kd.R_reads' HO189.out).2.1); rintro e w61 ⟨v191, rfl, ho0, hb⟩; have n0_ := Aside0.mk (Kd.R_elder' (by (with_reducible repeat (first | apply Kd.R_alloc | apply Kd.R_drewN | apply Kd.R_drew)); exact HO_1.out) (Kd.R_base ho0) hb); have n1_ := Aside0.mk (Kd.R_elder' (by (with_reducible repeat (first | apply Kd.R_alloc | apply Kd.R_drewN | apply Kd.R_drew)); exact HO177.out) (Kd.R_base ho0) hb); have n2_ := Aside0.mk (Kd.R_below (by (with_reducible repeat (first | apply Kd.R_alloc | apply Kd.R_drewN | apply Kd.R_drew)); exact HO180.out) hb); have n3_ := Aside0.mk (Kd.R_below (by (with_reducible repeat (first | apply Kd.R_alloc | apply Kd.R_drewN | apply Kd.R_drew)); exact HO183.out) hb); have n4_ := Aside0.mk (Kd.R_below (by (with_reducible repeat (first | apply Kd.R_alloc | apply Kd.R_drewN | apply Kd.R_drew)); exact HO189.out) hb); have n5_ := Aside0.mk (Kd.R_lower (Kd.R_new' (Kd.R_new' ho0 (Kd.R_lt (by (with_reducible repeat (first | apply Kd.R_alloc | apply Kd.R_drewN | apply Kd.R_drew)); exact HO_1.out))) (Kd.R_lt (by (with_reducible repeat (first | apply Kd.R_alloc | apply Kd.R_drewN | apply Kd.R_drew)); exact HO177.out))) (below_size (by repeat (first | (with_reducible first | exact HB.out | apply below_alloc | apply pw_below_drewN | apply below_drew1) | exact HB.out)))); have n6_ := Aside0.mk (below_step (by repeat (first | (with_reducible first | exact HB.out | apply below_alloc | apply pw_below_drewN | apply below_drew1) | exact HB.out)) hb); clear HO_1; clear HO177; clear HO180; clear HO183; clear HO189; clear HB; have HO_1 := n0_; have HO177 := n1_; have HO180 := n2_; have HO183 := n3_; have HO189 := n4_; have HO192 := n5_; have HB := n6_; clear n0_ n1_ n2_ n3_ n4_ n5_ n6_; (try clear hb); (try clear hb2); (try clear hk); (try clear hi); (try clear ho0)) | ((with_reducible refine gate_dst (N := 64) rfl ?_); (try (refine gate_guard (by rfl) ?_; dsimp only)); refine Kd.R_lit k28 _ 28 ?hg (N := 64) ?hd (xs := ([(⟨3, 4⟩ : S28), (⟨7, 7⟩ : S28)] : List (S28))) (inner := [.int .i64 3, .int .i64 4, .int .i64 7, .int .i64 7]) (ok := fun _ => True) (okp := fun _ => True) ?hr ?hp (fun _ hk => hk) trivial (Below.refl _ _) (Nat.le_refl _) (by simp) ?_; (case hd => rfl); (case hg => rfl); (case hr => first | (go_simp; done) | (go_simp; rfl)); (case hp => exact (Reps.c2 (show Kd.M k28 _ _ _ (⟨3, 4⟩ : S28) [.int .i64 3, .int .i64 4] from (k28_mkM _ _ _ (⟨3, 4⟩ : S28) )) (Reps.c2 (show Kd.M k28 _ _ _ (⟨7, 7⟩ : S28) [.int .i64 7, .int .i64 7] from (k28_mkM _ _ _ (⟨7, 7⟩ : S28) )) (Reps.none _ _)))); intro v194 w62 ho63 hb hg_ hnew_; clear hg_ hnew_; (first | rw [← Ny193.out] at ho63 | (simp only [Int.reduceToNat] at ho63; rw [← Ny193.out] at ho63)); have n0_ := Aside0.mk (Kd.R_elder' (by (with_reducible repeat (first | apply Kd.R_alloc | apply Kd.R_drewN | apply Kd.R_drew)); exact HO_1.out) (Kd.R_base ho63) hb); have n1_ := Aside0.mk (Kd.R_elder' (by (with_reducible repeat (first | apply Kd.R_alloc | apply Kd.R_drewN | apply Kd.R_drew)); exact HO177.out) (Kd.R_base ho63) hb); have n2_ := Aside0.mk (Kd.R_below (by (with_reducible repeat (first | apply Kd.R_alloc | apply Kd.R_drewN | apply Kd.R_drew)); exact HO180.out) hb); have n3_ := Aside0.mk (Kd.R_below (by (with_reducible repeat (first | apply Kd.R_alloc | apply Kd.R_drewN | apply Kd.R_drew)); exact HO183.out) hb); have n4_ := Aside0.mk (Kd.R_below (by (with_reducible repeat (first | apply Kd.R_alloc | apply Kd.R_drewN | apply Kd.R_drew)); exact HO189.out) hb); have n5_ := Aside0.mk (Kd.R_elder' (by (with_reducible repeat (first | apply Kd.R_alloc | apply Kd.R_drewN | apply Kd.R_drew)); exact HO192.out) (Kd.R_base ho63) hb); have n6_ := Aside0.mk (Kd.R_lower (Kd.R_new' (Kd.R_new' (Kd.R_new' ho63 (Kd.R_lt (by (with_reducible repeat (first | apply Kd.R_alloc | apply Kd.R_drewN | apply Kd.R_drew)); exact HO_1.out))) (Kd.R_lt (by (with_reducible repeat (first | apply Kd.R_alloc | apply Kd.R_drewN | apply Kd.R_drew)); exact HO177.out))) (Kd.R_lt (by (with_reducible repeat (first | apply Kd.R_alloc | apply Kd.R_drewN | apply Kd.R_drew)); exact HO192.out))) (below_size (by repeat (first | (with_reducible first | exact HB.out | apply below_alloc | apply pw_below_drewN | apply below_drew1) | exact HB.out)))); have n7_ := Aside0.mk (below_step (by repeat (first | (with_reducible first | exact HB.out | apply below_alloc | apply pw_below_drewN | apply below_drew1) | exact HB.out)) hb); clear HO_1; clear HO177; clear HO180; clear HO183; clear HO189; clear HO192; clear HB; have HO_1 := n0_; have HO177 := n1_; have HO180 := n2_; have HO183 := n3_; have HO189 := n4_; have HO192 := n5_; have HO195 := n6_; have HB := n7_; clear n0_ n1_ n2_ n3_ n4_ n5_ n6_ n7_; clear hb ho63; obtain ⟨Ao64, co64, eo64⟩ := Kd.R_slice HO192.out; subst eo64; obtain ⟨Ao65, co65, eo65⟩ := Kd.R_slice HO195.out; subst eo65) | (go_at_call 26; (with_reducible refine (postbaglaw4_same.calls kj2 _ _ t190 _ _ y193 true _ ?side1 ?side2 ?side3 ?side4 A43.out).mono ?_); (case side1 => repeat (first | exact (Kd.R_reads' HO192.out).2.2 | (with_reducible refine Kd.C_alloc ?_ _) | (with_reducible refine Kd.C_drewN ?_ _) | (with_reducible refine Kd.C_drew ?_))); (case side2 => exact (Kd.R_reads' HO192.out).2.1); (case side3 => repeat (first | exact (Kd.R_reads' HO195.out).2.2 | (with_reducible refine Kd.C_alloc ?_ _) | (with_reducible refine Kd.C_drewN ?_ _) | (with_reducible refine Kd.C_drew ?_))); (case side4 => exact (Kd.R_reads' HO195.out).2.1); rintro e w' ⟨rfl, ⟨nd, rfl⟩⟩) | ((with_reducible refine gate_dst (N := 69) rfl ?_); (try (refine gate_guard (by rfl) ?_; dsimp only)); refine Kd.R_lit k28 _ 28 ?hg (N := 69) ?hd (xs := ([(⟨3, 0⟩ : S28)] : List (S28))) (inner := [.int .i64 3, .int .i64 0]) (ok := fun _ => True) (okp := fun _ => True) ?hr ?hp (fun _ hk => hk) trivial (Below.refl _ _) (Nat.le_refl _) (by simp) ?_; (case hd => rfl); (case hg => rfl); (case hr => first | (go_simp; done) | (go_simp; rfl)); (case hp => exact (Reps.c2 (show Kd.M k28 _ _ _ (⟨3, 0⟩ : S28) [.int .i64 3, .int .i64 0] from (k28_mkM _ _ _ (⟨3, 0⟩ : S28) )) (Reps.none _ _))); intro v198 w66 ho67 hb hg_ hnew_; clear hg_ hnew_; (first | rw [← Ny197.out] at ho67 | (simp only [Int.reduceToNat] at ho67; rw [← Ny197.out] at ho67)); have n0_ := Aside0.mk (Kd.R_elder' (by (with_reducible repeat (first | apply Kd.R_alloc | apply Kd.R_drewN | apply Kd.R_drew)); exact HO_1.out) (Kd.R_base ho67) hb); have n1_ := Aside0.mk (Kd.R_elder' (by (with_reducible repeat (first | apply Kd.R_alloc | apply Kd.R_drewN | apply Kd.R_drew)); exact HO177.out) (Kd.R_base ho67) hb); have n2_ := Aside0.mk (Kd.R_below (by (with_reducible repeat (first | apply Kd.R_alloc | apply Kd.R_drewN | apply Kd.R_drew)); exact HO180.out) hb); have n3_ := Aside0.mk (Kd.R_below (by (with_reducible repeat (first | apply Kd.R_alloc | apply Kd.R_drewN | apply Kd.R_drew)); exact HO183.out) hb); have n4_ := Aside0.mk (Kd.R_below (by (with_reducible repeat (first | apply Kd.R_alloc | apply Kd.R_drewN | apply Kd.R_drew)); exact HO189.out) hb); have n5_ := Aside0.mk (Kd.R_elder' (by (with_reducible repeat (first | apply Kd.R_alloc | apply Kd.R_drewN | apply Kd.R_drew)); exact HO192.out) (Kd.R_base ho67) hb); have n6_ := Aside0.mk (Kd.R_elder' (by (with_reducible repeat (first | apply Kd.R_alloc | apply Kd.R_drewN | apply Kd.R_drew)); exact HO195.out) (Kd.R_base ho67) hb); have n7_ := Aside0.mk (Kd.R_lower (Kd.R_new' (Kd.R_new' (Kd.R_new' (Kd.R_new' ho67 (Kd.R_lt (by (with_reducible repeat (first | apply Kd.R_alloc | apply Kd.R_drewN | apply Kd.R_drew)); exact HO_1.out))) (Kd.R_lt (by (with_reducible repeat (first | apply Kd.R_alloc | apply Kd.R_drewN | apply Kd.R_drew)); exact HO177.out))) (Kd.R_lt (by (with_reducible repeat (first | apply Kd.R_alloc | apply Kd.R_drewN | apply Kd.R_drew)); exact HO192.out))) (Kd.R_lt (by (with_reducible repeat (first | apply Kd.R_alloc | apply Kd.R_drewN | apply Kd.R_drew)); exact HO195.out))) (below_size (by repeat (first | (with_reducible first | exact HB.out | apply below_alloc | apply pw_below_drewN | apply below_drew1) | exact HB.out)))); have n8_ := Aside0.mk (below_step (by repeat (first | (with_reducible first | exact HB.out | apply below_alloc | apply pw_below_drewN | apply below_drew1) | exact HB.out)) hb); clear HO_1; clear HO177; clear HO180; clear HO183; clear HO189; clear HO192; clear HO195; clear HB; have HO_1 := n0_; have HO177 := n1_; have HO180 := n2_; have HO183 := n3_; have HO189 := n4_; have HO192 := n5_; have HO195 := n6_; have HO199 := n7_; have HB := n8_; clear n0_ n1_ n2_ n3_ n4_ n5_ n6_ n7_ n8_; clear hb ho67; obtain ⟨Ao68, co68, eo68⟩ := Kd.R_slice HO199.out; subst eo68) | ((with_reducible refine gate_dst (N := 71) rfl ?_); (try (refine gate_guard (by rfl) ?_; dsimp only)); refine Kd.N_lit (Kd.slice 28 k28) _ 23 ?hg (N' := 71) ?hd (xs := ([y197, t160] : List (List (S28)))) (inner := [.slice Ao68 y197.length co68, .slice Ao54 t160.length co54]) (ok := (fun k_ => some k_ ≠ (.slice Ao51 y175.length co51 : Value).ownBlock ∧ some k_ ≠ (.slice Ao52 y178.length co52 : Value).ownBlock ∧ some k_ ≠ (.slice (some ad186) t181.length co57 : Value).ownBlock ∧ some k_ ≠ (.slice Ao60 y187.length co60 : Value).ownBlock ∧ some k_ ≠ (.slice Ao64 t190.length co64 : Value).ownBlock ∧ some k_ ≠ (.slice Ao65 y193.length co65 : Value).ownBlock)) (okp := (fun k_ => some k_ ≠ (.slice Ao51 y175.length co51 : Value).ownBlock ∧ some k_ ≠ (.slice Ao52 y178.length co52 : Value).ownBlock ∧ some k_ ≠ (.slice (some ad186) t181.length co57 : Value).ownBlock ∧ some k_ ≠ (.slice Ao60 y187.length co60 : Value).ownBlock ∧ some k_ ≠ (.slice Ao64 t190.length co64 : Value).ownBlock ∧ some k_ ≠ (.slice Ao65 y193.length co65 : Value).ownBlock)) ?hr ?hp (fun _ hk => hk) ((show ∀ k_, w66.heap.size ≤ k_ → (fun k_ => some k_ ≠ (.slice Ao51 y175.length co51 : Value).ownBlock ∧ some k_ ≠ (.slice Ao52 y178.length co52 : Value).ownBlock ∧ some k_ ≠ (.slice (some ad186) t181.length co57 : Value).ownBlock ∧ some k_ ≠ (.slice Ao60 y187.length co60 : Value).ownBlock ∧ some k_ ≠ (.slice Ao64 t190.length co64 : Value).ownBlock ∧ some k_ ≠ (.slice Ao65 y193.length co65 : Value).ownBlock) k_ from fun k_ hk => ⟨Kd.fresh' (Kd.R_lt (by (with_reducible repeat (first | apply Kd.R_alloc | apply Kd.R_drewN | apply Kd.R_drew)); exact HO177.out)) k_ hk, Kd.fresh' (Kd.R_lt (by (with_reducible repeat (first | apply Kd.R_alloc | apply Kd.R_drewN | apply Kd.R_drew)); exact HO180.out)) k_ hk, Kd.fresh' (Kd.R_lt (by (with_reducible repeat (first | apply Kd.R_alloc | apply Kd.R_drewN | apply Kd.R_drew)); exact HO183.out)) k_ hk, Kd.fresh' (Kd.R_lt (by (with_reducible repeat (first | apply Kd.R_alloc | apply Kd.R_drewN | apply Kd.R_drew)); exact HO189.out)) k_ hk, Kd.fresh' (Kd.R_lt (by (with_reducible repeat (first | apply Kd.R_alloc | apply Kd.R_drewN | apply Kd.R_drew)); exact HO192.out)) k_ hk, Kd.fresh' (Kd.R_lt (by (with_reducible repeat (first | apply Kd.R_alloc | apply Kd.R_drewN | apply Kd.R_drew)); exact HO195.out)) k_ hk⟩) _ (Nat.le_refl _)) (Below.refl _ _) (Nat.le_refl _) (by simp) ?_; (case hd => rfl); (case hg => rfl); (case hr => first | (go_simp; done) | (go_simp; rfl)); (case hp => exact (Reps.one (show Kd.FK (Kd.slice 28 k28) _ _ y197 [.slice Ao68 y197.length co68] from (Kd.FK_slice_mk (Kd.R_reads' (Kd.R_mono (ok' := (fun k_ => some k_ ≠ (.slice Ao51 y175.length co51 : Value).ownBlock ∧ some k_ ≠ (.slice Ao52 y178.length co52 : Value).ownBlock ∧ some k_ ≠ (.slice (some ad186) t181.length co57 : Value).ownBlock ∧ some k_ ≠ (.slice Ao60 y187.length co60 : Value).ownBlock ∧ some k_ ≠ (.slice Ao64 t190.length co64 : Value).ownBlock ∧ some k_ ≠ (.slice Ao65 y193.length co65 : Value).ownBlock)) (Kd.R_apart' (Kd.R_apart' (Kd.R_apart' (HO199.out) (Kd.R_typed HO180.out) (by decide)) (Kd.R_typed HO183.out) (by decide)) (Kd.R_typed HO189.out) (by decide)) (fun k_ hk => ⟨hk.1.1.1.1.1.2, ⟨hk.1.1.2, ⟨hk.1.2, ⟨hk.2, ⟨hk.1.1.1.1.2, hk.1.1.1.2⟩⟩⟩⟩⟩))).2.1 (Kd.R_F (Kd.R_mono (ok' := (fun k_ => some k_ ≠ (.slice Ao51 y175.length co51 : Value).ownBlock ∧ some k_ ≠ (.slice Ao52 y178.length co52 : Value).ownBlock ∧ some k_ ≠ (.slice (some ad186) t181.length co57 : Value).ownBlock ∧ some k_ ≠ (.slice Ao60 y187.length co60 : Value).ownBlock ∧ some k_ ≠ (.slice Ao64 t190.length co64 : Value).ownBlock ∧ some k_ ≠ (.slice Ao65 y193.length co65 : Value).ownBlock)) (Kd.R_apart' (Kd.R_apart' (Kd.R_apart' (HO199.out) (Kd.R_typed HO180.out) (by decide)) (Kd.R_typed HO183.out) (by decide)) (Kd.R_typed HO189.out) (by decide)) (fun k_ hk => ⟨hk.1.1.1.1.1.2, ⟨hk.1.1.2, ⟨hk.1.2, ⟨hk.2, ⟨hk.1.1.1.1.2, hk.1.1.1.2⟩⟩⟩⟩⟩))))) (Reps.one (show Kd.FK (Kd.slice 28 k28) _ _ t160 [.slice Ao54 t160.length co54] from (Kd.FK_slice_mk (Kd.R_reads' (Kd.R_mono (ok' := (fun k_ => some k_ ≠ (.slice Ao51 y175.length co51 : Value).ownBlock ∧ some k_ ≠ (.slice Ao52 y178.length co52 : Value).ownBlock ∧ some k_ ≠ (.slice (some ad186) t181.length co57 : Value).ownBlock ∧ some k_ ≠ (.slice Ao60 y187.length co60 : Value).ownBlock ∧ some k_ ≠ (.slice Ao64 t190.length co64 : Value).ownBlock ∧ some k_ ≠ (.slice Ao65 y193.length co65 : Value).ownBlock)) (Kd.R_apart' (Kd.R_apart' (Kd.R_apart' (HO_1.out) (Kd.R_typed HO180.out) (by decide)) (Kd.R_typed HO183.out) (by decide)) (Kd.R_typed HO189.out) (by decide)) (fun k_ hk => ⟨hk.1.1.1.1.1.1.2, ⟨hk.1.1.2, ⟨hk.1.2, ⟨hk.2, ⟨hk.1.1.1.1.1.2, hk.1.1.1.1.2⟩⟩⟩⟩⟩))).2.1 (Kd.R_F (Kd.R_mono (ok' := (fun k_ => some k_ ≠ (.slice Ao51 y175.length co51 : Value).ownBlock ∧ some k_ ≠ (.slice Ao52 y178.length co52 : Value).ownBlock ∧ some k_ ≠ (.slice (some ad186) t181.length co57 : Value).ownBlock ∧ some k_ ≠ (.slice Ao60 y187.length co60 : Value).ownBlock ∧ some k_ ≠ (.slice Ao64 t190.length co64 : Value).ownBlock ∧ some k_ ≠ (.slice Ao65 y193.length co65 : Value).ownBlock)) (Kd.R_apart' (Kd.R_apart' (Kd.R_apart' (HO_1.out) (Kd.R_typed HO180.out) (by decide)) (Kd.R_typed HO183.out) (by decide)) (Kd.R_typed HO189.out) (by decide)) (fun k_ hk => ⟨hk.1.1.1.1.1.1.2, ⟨hk.1.1.2, ⟨hk.1.2, ⟨hk.2, ⟨hk.1.1.1.1.1.2, hk.1.1.1.1.2⟩⟩⟩⟩⟩))))) (Reps.none _ _)))); intro v201 w69 ho70 hb hg_ hnew_; clear hg_ hnew_; (first | rw [← Ny200.out] at ho70 | (simp only [Int.reduceToNat] at ho70; rw [← Ny200.out] at ho70)); have n0_ := Aside0.mk (Kd.R_below (by (with_reducible repeat (first | apply Kd.R_alloc | apply Kd.R_drewN | apply Kd.R_drew)); exact HO177.out) hb); have n1_ := Aside0.mk (Kd.R_below (by (with_reducible repeat (first | apply Kd.R_alloc | apply Kd.R_drewN | apply Kd.R_drew)); exact HO180.out) hb); have n2_ := Aside0.mk (Kd.R_below (by (with_reducible repeat (first | apply Kd.R_alloc | apply Kd.R_drewN | apply Kd.R_drew)); exact HO183.out) hb); have n3_ := Aside0.mk (Kd.R_below (by (with_reducible repeat (first | apply Kd.R_alloc | apply Kd.R_drewN | apply Kd.R_drew)); exact HO189.out) hb); have n4_ := Aside0.mk (Kd.R_below (by (with_reducible repeat (first | apply Kd.R_alloc | apply Kd.R_drewN | apply Kd.R_drew)); exact HO192.out) hb); have n5_ := Aside0.mk (Kd.R_below (by (with_reducible repeat (first | apply Kd.R_alloc | apply Kd.R_drewN | apply Kd.R_drew)); exact HO195.out) hb); have n6_ := Aside0.mk (Kd.N_lower ho70 (below_size (by repeat (first | (with_reducible first | exact HB.out | apply below_alloc | apply pw_below_drewN | apply below_drew1) | exact HB.out)))); have n7_ := Aside0.mk (below_step (by repeat (first | (with_reducible first | exact HB.out | apply below_alloc | apply pw_below_drewN | apply below_drew1) | exact HB.out)) hb); clear HO177; clear HO180; clear HO183; clear HO189; clear HO192; clear HO195; clear HB; clear HO199; clear HO_1; have HO177 := n0_; have HO180 := n1_; have HO183 := n2_; have HO189 := n3_; have HO192 := n4_; have HO195 := n5_; have HO202 := n6_; have HB := n7_; clear n0_ n1_ n2_ n3_ n4_ n5_ n6_ n7_; clear hb ho70; obtain ⟨Ao71, co71, eo71⟩ := Kd.N_slice HO202.out; subst eo71) | (go_at_call 25; (with_reducible refine (span_Join.calls kj2 _ _ y200 t203 _ ?side1 ?side2 A45.out).mono ?_); (case side1 => repeat (first | exact (Kd.N_reads' HO202.out).2.2 | (with_reducible refine Kd.C_alloc ?_ _) | (with_reducible refine Kd.C_drewN ?_ _) | (with_reducible refine Kd.C_drew ?_))); (case side2 => exact (Kd.N_reads' HO202.out).2.1); rintro e w72 ⟨v204, rfl, ho0, hb⟩; have n0_ := Aside0.mk (Kd.R_elder' (by (with_reducible repeat (first | apply Kd.R_alloc | apply Kd.R_drewN | apply Kd.R_drew)); exact HO177.out) (Kd.R_base ho0) hb); have n1_ := Aside0.mk (Kd.R_below (by (with_reducible repeat (first | apply Kd.R_alloc | apply Kd.R_drewN | apply Kd.R_drew)); exact HO180.out) hb); have n2_ := Aside0.mk (Kd.R_below (by (with_reducible repeat (first | apply Kd.R_alloc | apply Kd.R_drewN | apply Kd.R_drew)); exact HO183.out) hb); have n3_ := Aside0.mk (Kd.R_below (by (with_reducible repeat (first | apply Kd.R_alloc | apply Kd.R_drewN | apply Kd.R_drew)); exact HO189.out) hb); have n4_ := Aside0.mk (Kd.R_elder' (by (with_reducible repeat (first | apply Kd.R_alloc | apply Kd.R_drewN | apply Kd.R_drew)); exact HO192.out) (Kd.R_base ho0) hb); have n5_ := Aside0.mk (Kd.R_elder' (by (with_reducible repeat (first | apply Kd.R_alloc | apply Kd.R_drewN | apply Kd.R_drew)); exact HO195.out) (Kd.R_base ho0) hb); have n6_ := Aside0.mk (Kd.N_elder' (by (with_reducible repeat (first | apply Kd.N_alloc | apply Kd.N_drewN | apply Kd.N_drew)); exact HO202.out) (Kd.R_base ho0) hb); have n7_ := Aside0.mk (Kd.R_lower (Kd.R_new' (Kd.R_new' (Kd.R_new' ho0 (Kd.R_lt (by (with_reducible repeat (first | apply Kd.R_alloc | apply Kd.R_drewN | apply Kd.R_drew)); exact HO177.out))) (Kd.R_lt (by (with_reducible repeat (first | apply Kd.R_alloc | apply Kd.R_drewN | apply Kd.R_drew)); exact HO192.out))) (Kd.R_lt (by (with_reducible repeat (first | apply Kd.R_alloc | apply Kd.R_drewN | apply Kd.R_drew)); exact HO195.out))) (below_size (by repeat (first | (with_reducible first | exact HB.out | apply below_alloc | apply pw_below_drewN | apply below_drew1) | exact HB.out)))); have n8_ := Aside0.mk (below_step (by repeat (first | (with_reducible first | exact HB.out | apply below_alloc | apply pw_below_drewN | apply below_drew1) | exact HB.out)) hb); clear HO177; clear HO180; clear HO183; clear HO189; clear HO192; clear HO195; clear HO202; clear HB; have HO177 := n0_; have HO180 := n1_; have HO183 := n2_; have HO189 := n3_; have HO192 := n4_; have HO195 := n5_; have HO202 := n6_; have HO205 := n7_; have HB := n8_; clear n0_ n1_ n2_ n3_ n4_ n5_ n6_ n7_ n8_; (try clear hb); (try clear hb2); (try clear hk); (try clear hi); (try clear ho0)) | ((with_reducible refine gate_dst (N := 75) rfl ?_); (try (refine gate_guard (by rfl) ?_; dsimp only)); refine Kd.R_lit k28 _ 28 ?hg (N := 75) ?hd (xs := ([(⟨2, 4⟩ : S28), (⟨3, 0⟩ : S28)] : List (S28))) (inner := [.int .i64 2, .int .i64 4, .int .i64 3, .int .i64 0]) (ok := fun _ => True) (okp := fun _ => True) ?hr ?hp (fun _ hk => hk) trivial (Below.refl _ _) (Nat.le_refl _) (by simp) ?_; (case hd => rfl); (case hg => rfl); (case hr => first | (go_simp; done) | (go_simp; rfl)); (case hp => exact (Reps.c2 (show Kd.M k28 _ _ _ (⟨2, 4⟩ : S28) [.int .i64 2, .int .i64 4] from (k28_mkM _ _ _ (⟨2, 4⟩ : S28) )) (Reps.c2 (show Kd.M k28 _ _ _ (⟨3, 0⟩ : S28) [.int .i64 3, .int .i64 0] from (k28_mkM _ _ _ (⟨3, 0⟩ : S28) )) (Reps.none _ _)))); intro v207 w73 ho74 hb hg_ hnew_; clear hg_ hnew_; (first | rw [← Ny206.out] at ho74 | (simp only [Int.reduceToNat] at ho74; rw [← Ny206.out] at ho74)); have n0_ := Aside0.mk (Kd.R_elder' (by (with_reducible repeat (first | apply Kd.R_alloc | apply Kd.R_drewN | apply Kd.R_drew)); exact HO177.out) (Kd.R_base ho74) hb); have n1_ := Aside0.mk (Kd.R_below (by (with_reducible repeat (first | apply Kd.R_alloc | apply Kd.R_drewN | apply Kd.R_drew)); exact HO180.out) hb); have n2_ := Aside0.mk (Kd.R_below (by (with_reducible repeat (first | apply Kd.R_alloc | apply Kd.R_drewN | apply Kd.R_drew)); exact HO183.out) hb); have n3_ := Aside0.mk (Kd.R_below (by (with_reducible repeat (first | apply Kd.R_alloc | apply Kd.R_drewN | apply Kd.R_drew)); exact HO189.out) hb); have n4_ := Aside0.mk (Kd.R_elder' (by (with_reducible repeat (first | apply Kd.R_alloc | apply Kd.R_drewN | apply Kd.R_drew)); exact HO192.out) (Kd.R_base ho74) hb); have n5_ := Aside0.mk (Kd.R_elder' (by (with_reducible repeat (first | apply Kd.R_alloc | apply Kd.R_drewN | apply Kd.R_drew)); exact HO195.out) (Kd.R_base ho74) hb); have n6_ := Aside0.mk (Kd.N_elder' (by (with_reducible repeat (first | apply Kd.N_alloc | apply Kd.N_drewN | apply Kd.N_drew)); exact HO202.out) (Kd.R_base ho74) hb); have n7_ := Aside0.mk (Kd.R_elder' (by (with_reducible repeat (first | apply Kd.R_alloc | apply Kd.R_drewN | apply Kd.R_drew)); exact HO205.out) (Kd.R_base ho74) hb); have n8_ := Aside0.mk (Kd.R_lower (Kd.R_new' (Kd.R_new' (Kd.R_new' (Kd.R_new' ho74 (Kd.R_lt (by (with_reducible repeat (first | apply Kd.R_alloc | apply Kd.R_drewN | apply Kd.R_drew)); exact HO177.out))) (Kd.R_lt (by (with_reducible repeat (first | apply Kd.R_alloc | apply Kd.R_drewN | apply Kd.R_drew)); exact HO192.out))) (Kd.R_lt (by (with_reducible repeat (first | apply Kd.R_alloc | apply Kd.R_drewN | apply Kd.R_drew)); exact HO195.out))) (Kd.R_lt (by (with_reducible repeat (first | apply Kd.R_alloc | apply Kd.R_drewN | apply Kd.R_drew)); exact HO205.out))) (below_size (by repeat (first | (with_reducible first | exact HB.out | apply below_alloc | apply pw_below_drewN | apply below_drew1) | exact HB.out)))); have n9_ := Aside0.mk (below_step (by repeat (first | (with_reducible first | exact HB.out | apply below_alloc | apply pw_below_drewN | apply below_drew1) | exact HB.out)) hb); clear HO177; clear HO180; clear HO183; clear HO189; clear HO192; clear HO195; clear HO202; clear HO205; clear HB; have HO177 := n0_; have HO180 := n1_; have HO183 := n2_; have HO189 := n3_; have HO192 := n4_; have HO195 := n5_; have HO202 := n6_; have HO205 := n7_; have HO208 := n8_; have HB := n9_; clear n0_ n1_ n2_ n3_ n4_ n5_ n6_ n7_ n8_ n9_; clear hb ho74; obtain ⟨Ao75, co75, eo75⟩ := Kd.R_slice HO205.out; subst eo75; obtain ⟨Ao76, co76, eo76⟩ := Kd.R_slice HO208.out; subst eo76) | (go_at_call 26; (with_reducible refine (postbaglaw4_same.calls kj2 _ _ t203 _ _ y206 t209 _ ?side1 ?side2 ?side3 ?side4 A46.out).mono ?_); (case side1 => repeat (first | exact (Kd.R_reads' HO205.out).2.2 | (with_reducible refine Kd.C_alloc ?_ _) | (with_reducible refine Kd.C_drewN ?_ _) | (with_reducible refine Kd.C_drew ?_))); (case side2 => exact (Kd.R_reads' HO205.out).2.1); (case side3 => repeat (first | exact (Kd.R_reads' HO208.out).2.2 | (with_reducible refine Kd.C_alloc ?_ _) | (with_reducible refine Kd.C_drewN ?_ _) | (with_reducible refine Kd.C_drew ?_))); (case side4 => exact (Kd.R_reads' HO208.out).2.1); rintro e w' ⟨rfl, ⟨nd, rfl⟩⟩))
          go_ret
          exact ⟨by first | rfl | (simp [errW_none, errW_some] <;> rfl) | (simp [*, errW_none, errW_some] <;> rfl), by repeat (first | (with_reducible first | exact HB.out | apply below_alloc | apply pw_below_drewN | apply below_drew1) | exact HB.out)⟩
         ·replace c44 := Bool.eq_false_iff.mpr c44
          subst c44
          have H1 : (some false) = some r := by rw [if_neg (show ¬ (false = true) by decide)] at H; exact H
          clear H
          have H := H1
          clear H1
          obtain rfl := Option.some.inj H
          go_wp2_with (first | ((with_reducible refine gate_dst (N := 38) rfl ?_); (try (refine gate_guard (by rfl) ?_; dsimp only)); refine Kd.R_lit k28 _ 28 ?hg (N := 38) ?hd (xs := ([(⟨20, 0⟩ : S28)] : List (S28))) (inner := [.int .i64 20, .int .i64 0]) (ok := fun _ => True) (okp := fun _ => True) ?hr ?hp (fun _ hk => hk) trivial (Below.refl _ _) (Nat.le_refl _) (by simp) ?_; (case hd => rfl); (case hg => rfl); (case hr => first | (go_simp; done) | (go_simp; rfl)); (case hp => exact (Reps.c2 (show Kd.M k28 _ _ _ (⟨20, 0⟩ : S28) [.int .i64 20, .int .i64 0] from (k28_mkM _ _ _ (⟨20, 0⟩ : S28) )) (Reps.none _ _))); intro v176 w77 ho78 hb hg_ hnew_; clear hg_ hnew_; (first | rw [← Ny175.out] at ho78 | (simp only [Int.reduceToNat] at ho78; rw [← Ny175.out] at ho78)); have n0_ := Aside0.mk (Kd.R_elder' (by (with_reducible repeat (first | apply Kd.R_alloc | apply Kd.R_drewN | apply Kd.R_drew)); exact HO_1.out) (Kd.R_base ho78) hb); have n1_ := Aside0.mk (Kd.R_lower (Kd.R_new' ho78 (Kd.R_lt (by (with_reducible repeat (first | apply Kd.R_alloc | apply Kd.R_drewN | apply Kd.R_drew)); exact HO_1.out))) (below_size (by repeat (first | (with_reducible first | exact HB.out | apply below_alloc | apply pw_below_drewN | apply below_drew1) | exact HB.out)))); have n2_ := Aside0.mk (below_step (by repeat (first | (with_reducible first | exact HB.out | apply below_alloc | apply pw_below_drewN | apply below_drew1) | exact HB.out)) hb); clear HO_1; clear HB; have HO_1 := n0_; have HO177 := n1_; have HB := n2_; clear n0_ n1_ n2_; clear hb ho78) | ((with_reducible refine gate_dst (N := 39) rfl ?_); (try (refine gate_guard (by rfl) ?_; dsimp only)); refine Kd.R_lit (Kd.int .i64) _ 3 ?hg (N := 39) ?hd (xs := ([1, 9] : List Int)) (inner := [.int .i64 1, .int .i64 9]) (ok := fun _ => True) (okp := fun _ => True) ?hr ?hp (fun _ hk => hk) trivial (Below.refl _ _) (Nat.le_refl _) (by simp) ?_; (case hd => rfl); (case hg => rfl); (case hr => first | (go_simp; done) | (go_simp; rfl)); (case hp => exact (Reps.one (show Kd.M (Kd.int .i64) _ _ _ 1 [.int .i64 1] from rfl) (Reps.one (show Kd.M (Kd.int .i64) _ _ _ 9 [.int .i64 9] from rfl) (Reps.none _ _)))); intro v179 w79 ho80 hb hg_ hnew_; clear hg_ hnew_; (first | rw [← Ny178.out] at ho80 | (simp only [Int.reduceToNat] at ho80; rw [← Ny178.out] at ho80)); have n0_ := Aside0.mk (Kd.R_below (by (with_reducible repeat (first | apply Kd.R_alloc | apply Kd.R_drewN | apply Kd.R_drew)); exact HO_1.out) hb); have n1_ := Aside0.mk (Kd.R_below (by (with_reducible repeat (first | apply Kd.R_alloc | apply Kd.R_drewN | apply Kd.R_drew)); exact HO177.out) hb); have n2_ := Aside0.mk (Kd.R_lower ho80 (below_size (by repeat (first | (with_reducible first | exact HB.out | apply below_alloc | apply pw_below_drewN | apply below_drew1) | exact HB.out)))); have n3_ := Aside0.mk (below_step (by repeat (first | (with_reducible first | exact HB.out | apply below_alloc | apply pw_below_drewN | apply below_drew1) | exact HB.out)) hb); clear HO_1; clear HO177; clear HB; have HO_1 := n0_; have HO177 := n1_; have HO180 := n2_; have HB := n3_; clear n0_ n1_ n2_ n3_; clear hb ho80; obtain ⟨Ao81, co81, eo81⟩ := Kd.R_slice HO177.out; subst eo81; obtain ⟨Ao82, co82, eo82⟩ := Kd.R_slice HO180.out; subst eo82) | ((with_reducible refine gate_callee (f := 19) rfl ?_); refine goesL_ (some 40) rfl rfl Tryd.func19 (by kernel_rfl) rfl #[.slice Ao81 y175.length co81, .slice Ao82 y178.length co82] rfl (by (try simp only [List.map_toArray, List.map_cons, List.map_nil]); first | done | rfl | (simp only [List.length_drop, List.length_take]; rfl)) ?_; (with_reducible refine (span_Of.calls kj2 _ _ y175 _ _ y178 t181 _ ?side1 ?side2 ?side3 ?side4 A24.out).mono ?_); (case side1 => repeat (first | exact (Kd.R_reads' HO177.out).2.2 | (with_reducible refine Kd.C_alloc ?_ _) | (with_reducible refine Kd.C_drewN ?_ _) | (with_reducible refine Kd.C_drew ?_))); (case side2 => exact (Kd.R_reads' HO177.out).2.1); (case side3 => repeat (first | exact (Kd.R_reads' HO180.out).2.2 | (with_reducible refine Kd.C_alloc ?_ _) | (with_reducible refine Kd.C_drewN ?_ _) | (with_reducible refine Kd.C_drew ?_))); (case side4 => exact (Kd.R_reads' HO180.out).2.1); rintro e w83 ⟨v182, rfl, ho0, hb⟩; refine ⟨_, rfl, ?_⟩; have n0_ := Aside0.mk (Kd.R_below (by (with_reducible repeat (first | apply Kd.R_alloc | apply Kd.R_drewN | apply Kd.R_drew)); exact HO_1.out) hb); have n1_ := Aside0.mk (Kd.R_below (by (with_reducible repeat (first | apply Kd.R_alloc | apply Kd.R_drewN | apply Kd.R_drew)); exact HO177.out) hb); have n2_ := Aside0.mk (Kd.R_elder' (by (with_reducible repeat (first | apply Kd.R_alloc | apply Kd.R_drewN | apply Kd.R_drew)); exact HO180.out) (Kd.R_base ho0) hb); have n3_ := Aside0.mk (Kd.R_lower (Kd.R_new' ho0 (Kd.R_lt (by (with_reducible repeat (first | apply Kd.R_alloc | apply Kd.R_drewN | apply Kd.R_drew)); exact HO180.out))) (below_size (by repeat (first | (with_reducible first | exact HB.out | apply below_alloc | apply pw_below_drewN | apply below_drew1) | exact HB.out)))); have n4_ := Aside0.mk (below_step (by repeat (first | (with_reducible first | exact HB.out | apply below_alloc | apply pw_below_drewN | apply below_drew1) | exact HB.out)) hb); clear HO_1; clear HO177; clear HO180; clear HB; have HO_1 := n0_; have HO177 := n1_; have HO180 := n2_; have HO183 := n3_; have HB := n4_; clear n0_ n1_ n2_ n3_ n4_; (try clear hb); (try clear hb2); (try clear hk); (try clear hi); (try clear ho0); obtain ⟨Ao84, co84, eo84⟩ := Kd.R_slice HO_1.out; subst eo84) | ((with_reducible refine gate_callee (f := 17) rfl ?_); refine goesL_ (some 42) rfl rfl Tryd.func17 (by kernel_rfl) rfl #[.slice Ao84 t160.length co84, .int .i64 3, .int .i64 9] rfl (by (try simp only [List.map_toArray, List.map_cons, List.map_nil]); first | done | rfl | (simp only [List.length_drop, List.length_take]; rfl)) ?_; (with_reducible refine (span_Has.calls _ _ t160 3 9 true _ ?side1 ?side2 A25.out).mono ?_); (case side1 => repeat (first | exact (Kd.R_reads' HO_1.out).2.2 | (with_reducible refine Kd.C_alloc ?_ _) | (with_reducible refine Kd.C_drewN ?_ _) | (with_reducible refine Kd.C_drew ?_))); (case side2 => exact (Kd.R_reads' HO_1.out).2.1); rintro e w85 ⟨rfl, hb⟩; refine ⟨_, rfl, ?_⟩; have n0_ := Aside0.mk (Kd.R_below (by (with_reducible repeat (first | apply Kd.R_alloc | apply Kd.R_drewN | apply Kd.R_drew)); exact HO_1.out) hb); have n1_ := Aside0.mk (Kd.R_below (by (with_reducible repeat (first | apply Kd.R_alloc | apply Kd.R_drewN | apply Kd.R_drew)); exact HO177.out) hb); have n2_ := Aside0.mk (Kd.R_below (by (with_reducible repeat (first | apply Kd.R_alloc | apply Kd.R_drewN | apply Kd.R_drew)); exact HO180.out) hb); have n3_ := Aside0.mk (Kd.R_below (by (with_reducible repeat (first | apply Kd.R_alloc | apply Kd.R_drewN | apply Kd.R_drew)); exact HO183.out) hb); have n4_ := Aside0.mk (below_step (by repeat (first | (with_reducible first | exact HB.out | apply below_alloc | apply pw_below_drewN | apply below_drew1) | exact HB.out)) hb); clear HO_1; clear HO177; clear HO180; clear HO183; clear HB; have HO_1 := n0_; have HO177 := n1_; have HO180 := n2_; have HO183 := n3_; have HB := n4_; clear n0_ n1_ n2_ n3_ n4_; (try clear hb); (try clear hb2); (try clear hk); (try clear hi)) | (go_at_call 17; (with_reducible refine (span_Has.calls _ _ t160 5 9 false _ ?side1 ?side2 A27.out).mono ?_); (case side1 => repeat (first | exact (Kd.R_reads' HO_1.out).2.2 | (with_reducible refine Kd.C_alloc ?_ _) | (with_reducible refine Kd.C_drewN ?_ _) | (with_reducible refine Kd.C_drew ?_))); (case side2 => exact (Kd.R_reads' HO_1.out).2.1); rintro e w86 ⟨rfl, hb⟩; have n0_ := Aside0.mk (Kd.R_below (by (with_reducible repeat (first | apply Kd.R_alloc | apply Kd.R_drewN | apply Kd.R_drew)); exact HO_1.out) hb); have n1_ := Aside0.mk (Kd.R_below (by (with_reducible repeat (first | apply Kd.R_alloc | apply Kd.R_drewN | apply Kd.R_drew)); exact HO177.out) hb); have n2_ := Aside0.mk (Kd.R_below (by (with_reducible repeat (first | apply Kd.R_alloc | apply Kd.R_drewN | apply Kd.R_drew)); exact HO180.out) hb); have n3_ := Aside0.mk (Kd.R_below (by (with_reducible repeat (first | apply Kd.R_alloc | apply Kd.R_drewN | apply Kd.R_drew)); exact HO183.out) hb); have n4_ := Aside0.mk (below_step (by repeat (first | (with_reducible first | exact HB.out | apply below_alloc | apply pw_below_drewN | apply below_drew1) | exact HB.out)) hb); clear HO_1; clear HO177; clear HO180; clear HO183; clear HB; have HO_1 := n0_; have HO177 := n1_; have HO180 := n2_; have HO183 := n3_; have HB := n4_; clear n0_ n1_ n2_ n3_ n4_; (try clear hb); (try clear hb2); (try clear hk); (try clear hi); obtain ⟨Ao87, co87, eo87⟩ := Kd.R_slice HO183.out; subst eo87; have p186 : 0 ≤ (0 : Int) := (by omega); have q186 : 0 < (t181.length : Int) := of_decide_eq_true (by first | (with_reducible assumption) | assumption); obtain ⟨ad186, e186, hx186_0⟩ := Kd.at_int (Kd.R_reads' HO183.out).2.2 0 p186 q186; cases e186; have qi186 : (0 < t181.length) = True := eq_true (by omega); (try rw [show ((0 : Int)).toNat = 0 from rfl] at hx186_0); (try rw [Addr.add_zero'] at hx186_0); replace p186 := eq_true p186; replace q186 := eq_true q186) | ((with_reducible refine gate_dst (N := 60) rfl ?_); (try (refine gate_guard (by rfl) ?_; dsimp only)); refine Kd.R_lit (Kd.int .i64) _ 3 ?hg (N := 60) ?hd (xs := ([4, 3, 7] : List Int)) (inner := [.int .i64 4, .int .i64 3, .int .i64 7]) (ok := fun _ => True) (okp := fun _ => True) ?hr ?hp (fun _ hk => hk) trivial (Below.refl _ _) (Nat.le_refl _) (by simp) ?_; (case hd => rfl); (case hg => rfl); (case hr => first | (go_simp; done) | (go_simp; rfl)); (case hp => exact (Reps.one (show Kd.M (Kd.int .i64) _ _ _ 4 [.int .i64 4] from rfl) (Reps.one (show Kd.M (Kd.int .i64) _ _ _ 3 [.int .i64 3] from rfl) (Reps.one (show Kd.M (Kd.int .i64) _ _ _ 7 [.int .i64 7] from rfl) (Reps.none _ _))))); intro v188 w88 ho89 hb hg_ hnew_; clear hg_ hnew_; (first | rw [← Ny187.out] at ho89 | (simp only [Int.reduceToNat] at ho89; rw [← Ny187.out] at ho89)); have n0_ := Aside0.mk (Kd.R_below (by (with_reducible repeat (first | apply Kd.R_alloc | apply Kd.R_drewN | apply Kd.R_drew)); exact HO_1.out) hb); have n1_ := Aside0.mk (Kd.R_below (by (with_reducible repeat (first | apply Kd.R_alloc | apply Kd.R_drewN | apply Kd.R_drew)); exact HO177.out) hb); have n2_ := Aside0.mk (Kd.R_elder' (by (with_reducible repeat (first | apply Kd.R_alloc | apply Kd.R_drewN | apply Kd.R_drew)); exact HO180.out) (Kd.R_base ho89) hb); have n3_ := Aside0.mk (Kd.R_elder' (by (with_reducible repeat (first | apply Kd.R_alloc | apply Kd.R_drewN | apply Kd.R_drew)); exact HO183.out) (Kd.R_base ho89) hb); have n4_ := Aside0.mk (Kd.R_lower (Kd.R_new' (Kd.R_new' ho89 (Kd.R_lt (by (with_reducible repeat (first | apply Kd.R_alloc | apply Kd.R_drewN | apply Kd.R_drew)); exact HO180.out))) (Kd.R_lt (by (with_reducible repeat (first | apply Kd.R_alloc | apply Kd.R_drewN | apply Kd.R_drew)); exact HO183.out))) (below_size (by repeat (first | (with_reducible first | exact HB.out | apply below_alloc | apply pw_below_drewN | apply below_drew1) | exact HB.out)))); have n5_ := Aside0.mk (below_step (by repeat (first | (with_reducible first | exact HB.out | apply below_alloc | apply pw_below_drewN | apply below_drew1) | exact HB.out)) hb); clear HO_1; clear HO177; clear HO180; clear HO183; clear HB; have HO_1 := n0_; have HO177 := n1_; have HO180 := n2_; have HO183 := n3_; have HO189 := n4_; have HB := n5_; clear n0_ n1_ n2_ n3_ n4_ n5_; clear hb ho89; obtain ⟨Ao90, co90, eo90⟩ := Kd.R_slice HO189.out; subst eo90) | (go_at_call 15; (with_reducible refine (span_Least.calls kj2 _ _ y187 t190 _ ?side1 ?side2 A42.out).mono ?_); (case side1 => repeat (first | exact (Kd.R_reads' HO189.out).2.2 | (with_reducible refine Kd.C_alloc ?_ _) | (with_reducible refine Kd.C_drewN ?_ _) | (with_reducible refine Kd.C_drew ?_))); (case side2 => exact (Kd.R_reads' HO189.out).2.1); rintro e w91 ⟨v191, rfl, ho0, hb⟩; have n0_ := Aside0.mk (Kd.R_elder' (by (with_reducible repeat (first | apply Kd.R_alloc | apply Kd.R_drewN | apply Kd.R_drew)); exact HO_1.out) (Kd.R_base ho0) hb); have n1_ := Aside0.mk (Kd.R_elder' (by (with_reducible repeat (first | apply Kd.R_alloc | apply Kd.R_drewN | apply Kd.R_drew)); exact HO177.out) (Kd.R_base ho0) hb); have n2_ := Aside0.mk (Kd.R_below (by (with_reducible repeat (first | apply Kd.R_alloc | apply Kd.R_drewN | apply Kd.R_drew)); exact HO180.out) hb); have n3_ := Aside0.mk (Kd.R_below (by (with_reducible repeat (first | apply Kd.R_alloc | apply Kd.R_drewN | apply Kd.R_drew)); exact HO183.out) hb); have n4_ := Aside0.mk (Kd.R_below (by (with_reducible repeat (first | apply Kd.R_alloc | apply Kd.R_drewN | apply Kd.R_drew)); exact HO189.out) hb); have n5_ := Aside0.mk (Kd.R_lower (Kd.R_new' (Kd.R_new' ho0 (Kd.R_lt (by (with_reducible repeat (first | apply Kd.R_alloc | apply Kd.R_drewN | apply Kd.R_drew)); exact HO_1.out))) (Kd.R_lt (by (with_reducible repeat (first | apply Kd.R_alloc | apply Kd.R_drewN | apply Kd.R_drew)); exact HO177.out))) (below_size (by repeat (first | (with_reducible first | exact HB.out | apply below_alloc | apply pw_below_drewN | apply below_drew1) | exact HB.out)))); have n6_ := Aside0.mk (below_step (by repeat (first | (with_reducible first | exact HB.out | apply below_alloc | apply pw_below_drewN | apply below_drew1) | exact HB.out)) hb); clear HO_1; clear HO177; clear HO180; clear HO183; clear HO189; clear HB; have HO_1 := n0_; have HO177 := n1_; have HO180 := n2_; have HO183 := n3_; have HO189 := n4_; have HO192 := n5_; have HB := n6_; clear n0_ n1_ n2_ n3_ n4_ n5_ n6_; (try clear hb); (try clear hb2); (try clear hk); (try clear hi); (try clear ho0)) | ((with_reducible refine gate_dst (N := 64) rfl ?_); (try (refine gate_guard (by rfl) ?_; dsimp only)); refine Kd.R_lit k28 _ 28 ?hg (N := 64) ?hd (xs := ([(⟨3, 4⟩ : S28), (⟨7, 7⟩ : S28)] : List (S28))) (inner := [.int .i64 3, .int .i64 4, .int .i64 7, .int .i64 7]) (ok := fun _ => True) (okp := fun _ => True) ?hr ?hp (fun _ hk => hk) trivial (Below.refl _ _) (Nat.le_refl _) (by simp) ?_; (case hd => rfl); (case hg => rfl); (case hr => first | (go_simp; done) | (go_simp; rfl)); (case hp => exact (Reps.c2 (show Kd.M k28 _ _ _ (⟨3, 4⟩ : S28) [.int .i64 3, .int .i64 4] from (k28_mkM _ _ _ (⟨3, 4⟩ : S28) )) (Reps.c2 (show Kd.M k28 _ _ _ (⟨7, 7⟩ : S28) [.int .i64 7, .int .i64 7] from (k28_mkM _ _ _ (⟨7, 7⟩ : S28) )) (Reps.none _ _)))); intro v194 w92 ho93 hb hg_ hnew_; clear hg_ hnew_; (first | rw [← Ny193.out] at ho93 | (simp only [Int.reduceToNat] at ho93; rw [← Ny193.out] at ho93)); have n0_ := Aside0.mk (Kd.R_elder' (by (with_reducible repeat (first | apply Kd.R_alloc | apply Kd.R_drewN | apply Kd.R_drew)); exact HO_1.out) (Kd.R_base ho93) hb); have n1_ := Aside0.mk (Kd.R_elder' (by (with_reducible repeat (first | apply Kd.R_alloc | apply Kd.R_drewN | apply Kd.R_drew)); exact HO177.out) (Kd.R_base ho93) hb); have n2_ := Aside0.mk (Kd.R_below (by (with_reducible repeat (first | apply Kd.R_alloc | apply Kd.R_drewN | apply Kd.R_drew)); exact HO180.out) hb); have n3_ := Aside0.mk (Kd.R_below (by (with_reducible repeat (first | apply Kd.R_alloc | apply Kd.R_drewN | apply Kd.R_drew)); exact HO183.out) hb); have n4_ := Aside0.mk (Kd.R_below (by (with_reducible repeat (first | apply Kd.R_alloc | apply Kd.R_drewN | apply Kd.R_drew)); exact HO189.out) hb); have n5_ := Aside0.mk (Kd.R_elder' (by (with_reducible repeat (first | apply Kd.R_alloc | apply Kd.R_drewN | apply Kd.R_drew)); exact HO192.out) (Kd.R_base ho93) hb); have n6_ := Aside0.mk (Kd.R_lower (Kd.R_new' (Kd.R_new' (Kd.R_new' ho93 (Kd.R_lt (by (with_reducible repeat (first | apply Kd.R_alloc | apply Kd.R_drewN | apply Kd.R_drew)); exact HO_1.out))) (Kd.R_lt (by (with_reducible repeat (first | apply Kd.R_alloc | apply Kd.R_drewN | apply Kd.R_drew)); exact HO177.out))) (Kd.R_lt (by (with_reducible repeat (first | apply Kd.R_alloc | apply Kd.R_drewN | apply Kd.R_drew)); exact HO192.out))) (below_size (by repeat (first | (with_reducible first | exact HB.out | apply below_alloc | apply pw_below_drewN | apply below_drew1) | exact HB.out)))); have n7_ := Aside0.mk (below_step (by repeat (first | (with_reducible first | exact HB.out | apply below_alloc | apply pw_below_drewN | apply below_drew1) | exact HB.out)) hb); clear HO_1; clear HO177; clear HO180; clear HO183; clear HO189; clear HO192; clear HB; have HO_1 := n0_; have HO177 := n1_; have HO180 := n2_; have HO183 := n3_; have HO189 := n4_; have HO192 := n5_; have HO195 := n6_; have HB := n7_; clear n0_ n1_ n2_ n3_ n4_ n5_ n6_ n7_; clear hb ho93; obtain ⟨Ao94, co94, eo94⟩ := Kd.R_slice HO192.out; subst eo94; obtain ⟨Ao95, co95, eo95⟩ := Kd.R_slice HO195.out; subst eo95) | (go_at_call 26; (with_reducible refine (postbaglaw4_same.calls kj2 _ _ t190 _ _ y193 false _ ?side1 ?side2 ?side3 ?side4 A43.out).mono ?_); (case side1 => repeat (first | exact (Kd.R_reads' HO192.out).2.2 | (with_reducible refine Kd.C_alloc ?_ _) | (with_reducible refine Kd.C_drewN ?_ _) | (with_reducible refine Kd.C_drew ?_))); (case side2 => exact (Kd.R_reads' HO192.out).2.1); (case side3 => repeat (first | exact (Kd.R_reads' HO195.out).2.2 | (with_reducible refine Kd.C_alloc ?_ _) | (with_reducible refine Kd.C_drewN ?_ _) | (with_reducible refine Kd.C_drew ?_))); (case side4 => exact (Kd.R_reads' HO195.out).2.1); rintro e w' ⟨rfl, ⟨nd, rfl⟩⟩))
          go_ret
          exact ⟨by first | rfl | (simp [errW_none, errW_some] <;> rfl) | (simp [*, errW_none, errW_some] <;> rfl), by repeat (first | (with_reducible first | exact HB.out | apply below_alloc | apply pw_below_drewN | apply below_drew1) | exact HB.out)⟩
        ·rw [if_neg c41] at H
         have c41b0 : ((rd t181 0) == 9) = false := beq_eq_false_iff_ne.mpr c41
         have c41b1 : ((rd t181 0) != 9) = true := bne_iff_ne.mpr c41
         obtain rfl := Option.some.inj H
         go_wp2_with (first | ((with_reducible refine gate_dst (N := 38) rfl ?_); (try (refine gate_guard (by rfl) ?_; dsimp only)); refine Kd.R_lit k28 _ 28 ?hg (N := 38) ?hd (xs := ([(⟨20, 0⟩ : S28)] : List (S28))) (inner := [.int .i64 20, .int .i64 0]) (ok := fun _ => True) (okp := fun _ => True) ?hr ?hp (fun _ hk => hk) trivial (Below.refl _ _) (Nat.le_refl _) (by simp) ?_; (case hd => rfl); (case hg => rfl); (case hr => first | (go_simp; done) | (go_simp; rfl)); (case hp => exact (Reps.c2 (show Kd.M k28 _ _ _ (⟨20, 0⟩ : S28) [.int .i64 20, .int .i64 0] from (k28_mkM _ _ _ (⟨20, 0⟩ : S28) )) (Reps.none _ _))); intro v176 w96 ho97 hb hg_ hnew_; clear hg_ hnew_; (first | rw [← Ny175.out] at ho97 | (simp only [Int.reduceToNat] at ho97; rw [← Ny175.out] at ho97)); have n0_ := Aside0.mk (Kd.R_elder' (by (with_reducible repeat (first | apply Kd.R_alloc | apply Kd.R_drewN | apply Kd.R_drew)); exact HO_1.out) (Kd.R_base ho97) hb); have n1_ := Aside0.mk (Kd.R_lower (Kd.R_new' ho97 (Kd.R_lt (by (with_reducible repeat (first | apply Kd.R_alloc | apply Kd.R_drewN | apply Kd.R_drew)); exact HO_1.out))) (below_size (by repeat (first | (with_reducible first | exact HB.out | apply below_alloc | apply pw_below_drewN | apply below_drew1) | exact HB.out)))); have n2_ := Aside0.mk (below_step (by repeat (first | (with_reducible first | exact HB.out | apply below_alloc | apply pw_below_drewN | apply below_drew1) | exact HB.out)) hb); clear HO_1; clear HB; have HO_1 := n0_; have HO177 := n1_; have HB := n2_; clear n0_ n1_ n2_; clear hb ho97) | ((with_reducible refine gate_dst (N := 39) rfl ?_); (try (refine gate_guard (by rfl) ?_; dsimp only)); refine Kd.R_lit (Kd.int .i64) _ 3 ?hg (N := 39) ?hd (xs := ([1, 9] : List Int)) (inner := [.int .i64 1, .int .i64 9]) (ok := fun _ => True) (okp := fun _ => True) ?hr ?hp (fun _ hk => hk) trivial (Below.refl _ _) (Nat.le_refl _) (by simp) ?_; (case hd => rfl); (case hg => rfl); (case hr => first | (go_simp; done) | (go_simp; rfl)); (case hp => exact (Reps.one (show Kd.M (Kd.int .i64) _ _ _ 1 [.int .i64 1] from rfl) (Reps.one (show Kd.M (Kd.int .i64) _ _ _ 9 [.int .i64 9] from rfl) (Reps.none _ _)))); intro v179 w98 ho99 hb hg_ hnew_; clear hg_ hnew_; (first | rw [← Ny178.out] at ho99 | (simp only [Int.reduceToNat] at ho99; rw [← Ny178.out] at ho99)); have n0_ := Aside0.mk (Kd.R_below (by (with_reducible repeat (first | apply Kd.R_alloc | apply Kd.R_drewN | apply Kd.R_drew)); exact HO_1.out) hb); have n1_ := Aside0.mk (Kd.R_below (by (with_reducible repeat (first | apply Kd.R_alloc | apply Kd.R_drewN | apply Kd.R_drew)); exact HO177.out) hb); have n2_ := Aside0.mk (Kd.R_lower ho99 (below_size (by repeat (first | (with_reducible first | exact HB.out | apply below_alloc | apply pw_below_drewN | apply below_drew1) | exact HB.out)))); have n3_ := Aside0.mk (below_step (by repeat (first | (with_reducible first | exact HB.out | apply below_alloc | apply pw_below_drewN | apply below_drew1) | exact HB.out)) hb); clear HO_1; clear HO177; clear HB; have HO_1 := n0_; have HO177 := n1_; have HO180 := n2_; have HB := n3_; clear n0_ n1_ n2_ n3_; clear hb ho99; obtain ⟨Ao100, co100, eo100⟩ := Kd.R_slice HO177.out; subst eo100; obtain ⟨Ao101, co101, eo101⟩ := Kd.R_slice HO180.out; subst eo101) | ((with_reducible refine gate_callee (f := 19) rfl ?_); refine goesL_ (some 40) rfl rfl Tryd.func19 (by kernel_rfl) rfl #[.slice Ao100 y175.length co100, .slice Ao101 y178.length co101] rfl (by (try simp only [List.map_toArray, List.map_cons, List.map_nil]); first | done | rfl | (simp only [List.length_drop, List.length_take]; rfl)) ?_; (with_reducible refine (span_Of.calls kj2 _ _ y175 _ _ y178 t181 _ ?side1 ?side2 ?side3 ?side4 A24.out).mono ?_); (case side1 => repeat (first | exact (Kd.R_reads' HO177.out).2.2 | (with_reducible refine Kd.C_alloc ?_ _) | (with_reducible refine Kd.C_drewN ?_ _) | (with_reducible refine Kd.C_drew ?_))); (case side2 => exact (Kd.R_reads' HO177.out).2.1); (case side3 => repeat (first | exact (Kd.R_reads' HO180.out).2.2 | (with_reducible refine Kd.C_alloc ?_ _) | (with_reducible refine Kd.C_drewN ?_ _) | (with_reducible refine Kd.C_drew ?_))); (case side4 => exact (Kd.R_reads' HO180.out).2.1); rintro e w102 ⟨v182, rfl, ho0, hb⟩; refine ⟨_, rfl, ?_⟩; have n0_ := Aside0.mk (Kd.R_below (by (with_reducible repeat (first | apply Kd.R_alloc | apply Kd.R_drewN | apply Kd.R_drew)); exact HO_1.out) hb); have n1_ := Aside0.mk (Kd.R_below (by (with_reducible repeat (first | apply Kd.R_alloc | apply Kd.R_drewN | apply Kd.R_drew)); exact HO177.out) hb); have n2_ := Aside0.mk (Kd.R_elder' (by (with_reducible repeat (first | apply Kd.R_alloc | apply Kd.R_drewN | apply Kd.R_drew)); exact HO180.out) (Kd.R_base ho0) hb); have n3_ := Aside0.mk (Kd.R_lower (Kd.R_new' ho0 (Kd.R_lt (by (with_reducible repeat (first | apply Kd.R_alloc | apply Kd.R_drewN | apply Kd.R_drew)); exact HO180.out))) (below_size (by repeat (first | (with_reducible first | exact HB.out | apply below_alloc | apply pw_below_drewN | apply below_drew1) | exact HB.out)))); have n4_ := Aside0.mk (below_step (by repeat (first | (with_reducible first | exact HB.out | apply below_alloc | apply pw_below_drewN | apply below_drew1) | exact HB.out)) hb); clear HO_1; clear HO177; clear HO180; clear HB; have HO_1 := n0_; have HO177 := n1_; have HO180 := n2_; have HO183 := n3_; have HB := n4_; clear n0_ n1_ n2_ n3_ n4_; (try clear hb); (try clear hb2); (try clear hk); (try clear hi); (try clear ho0); obtain ⟨Ao103, co103, eo103⟩ := Kd.R_slice HO_1.out; subst eo103) | ((with_reducible refine gate_callee (f := 17) rfl ?_); refine goesL_ (some 42) rfl rfl Tryd.func17 (by kernel_rfl) rfl #[.slice Ao103 t160.length co103, .int .i64 3, .int .i64 9] rfl (by (try simp only [List.map_toArray, List.map_cons, List.map_nil]); first | done | rfl | (simp only [List.length_drop, List.length_take]; rfl)) ?_; (with_reducible refine (span_Has.calls _ _ t160 3 9 true _ ?side1 ?side2 A25.out).mono ?_); (case side1 => repeat (first | exact (Kd.R_reads' HO_1.out).2.2 | (with_reducible refine Kd.C_alloc ?_ _) | (with_reducible refine Kd.C_drewN ?_ _) | (with_reducible refine Kd.C_drew ?_))); (case side2 => exact (Kd.R_reads' HO_1.out).2.1); rintro e w104 ⟨rfl, hb⟩; refine ⟨_, rfl, ?_⟩; have n0_ := Aside0.mk (Kd.R_below (by (with_reducible repeat (first | apply Kd.R_alloc | apply Kd.R_drewN | apply Kd.R_drew)); exact HO_1.out) hb); have n1_ := Aside0.mk (Kd.R_below (by (with_reducible repeat (first | apply Kd.R_alloc | apply Kd.R_drewN | apply Kd.R_drew)); exact HO177.out) hb); have n2_ := Aside0.mk (Kd.R_below (by (with_reducible repeat (first | apply Kd.R_alloc | apply Kd.R_drewN | apply Kd.R_drew)); exact HO180.out) hb); have n3_ := Aside0.mk (Kd.R_below (by (with_reducible repeat (first | apply Kd.R_alloc | apply Kd.R_drewN | apply Kd.R_drew)); exact HO183.out) hb); have n4_ := Aside0.mk (below_step (by repeat (first | (with_reducible first | exact HB.out | apply below_alloc | apply pw_below_drewN | apply below_drew1) | exact HB.out)) hb); clear HO_1; clear HO177; clear HO180; clear HO183; clear HB; have HO_1 := n0_; have HO177 := n1_; have HO180 := n2_; have HO183 := n3_; have HB := n4_; clear n0_ n1_ n2_ n3_ n4_; (try clear hb); (try clear hb2); (try clear hk); (try clear hi)) | (go_at_call 17; (with_reducible refine (span_Has.calls _ _ t160 5 9 false _ ?side1 ?side2 A27.out).mono ?_); (case side1 => repeat (first | exact (Kd.R_reads' HO_1.out).2.2 | (with_reducible refine Kd.C_alloc ?_ _) | (with_reducible refine Kd.C_drewN ?_ _) | (with_reducible refine Kd.C_drew ?_))); (case side2 => exact (Kd.R_reads' HO_1.out).2.1); rintro e w105 ⟨rfl, hb⟩; have n0_ := Aside0.mk (Kd.R_below (by (with_reducible repeat (first | apply Kd.R_alloc | apply Kd.R_drewN | apply Kd.R_drew)); exact HO_1.out) hb); have n1_ := Aside0.mk (Kd.R_below (by (with_reducible repeat (first | apply Kd.R_alloc | apply Kd.R_drewN | apply Kd.R_drew)); exact HO177.out) hb); have n2_ := Aside0.mk (Kd.R_below (by (with_reducible repeat (first | apply Kd.R_alloc | apply Kd.R_drewN | apply Kd.R_drew)); exact HO180.out) hb); have n3_ := Aside0.mk (Kd.R_below (by (with_reducible repeat (first | apply Kd.R_alloc | apply Kd.R_drewN | apply Kd.R_drew)); exact HO183.out) hb); have n4_ := Aside0.mk (below_step (by repeat (first | (with_reducible first | exact HB.out | apply below_alloc | apply pw_below_drewN | apply below_drew1) | exact HB.out)) hb); clear HO_1; clear HO177; clear HO180; clear HO183; clear HB; have HO_1 := n0_; have HO177 := n1_; have HO180 := n2_; have HO183 := n3_; have HB := n4_; clear n0_ n1_ n2_ n3_ n4_; (try clear hb); (try clear hb2); (try clear hk); (try clear hi); obtain ⟨Ao106, co106, eo106⟩ := Kd.R_slice HO183.out; subst eo106; have p186 : 0 ≤ (0 : Int) := (by omega); have q186 : 0 < (t181.length : Int) := of_decide_eq_true (by first | (with_reducible assumption) | assumption); obtain ⟨ad186, e186, hx186_0⟩ := Kd.at_int (Kd.R_reads' HO183.out).2.2 0 p186 q186; cases e186; have qi186 : (0 < t181.length) = True := eq_true (by omega); (try rw [show ((0 : Int)).toNat = 0 from rfl] at hx186_0); (try rw [Addr.add_zero'] at hx186_0); replace p186 := eq_true p186; replace q186 := eq_true q186))
         go_ret
         exact ⟨by first | rfl | (simp [errW_none, errW_some] <;> rfl) | (simp [*, errW_none, errW_some] <;> rfl), by repeat (first | (with_reducible first | exact HB.out | apply below_alloc | apply pw_below_drewN | apply below_drew1) | exact HB.out)⟩
       ·rw [if_neg c40] at H
        exact absurd H (by simp)
      ·rw [if_neg c39] at H
       have c39b0 : ((t181.length : Int) == 1) = false := beq_eq_false_iff_ne.mpr c39
       have c39b1 : ((t181.length : Int) != 1) = true := bne_iff_ne.mpr c39
       obtain rfl := Option.some.inj H
       go_wp2_with (first | ((with_reducible refine gate_dst (N := 38) rfl ?_); (try (refine gate_guard (by rfl) ?_; dsimp only)); refine Kd.R_lit k28 _ 28 ?hg (N := 38) ?hd (xs := ([(⟨20, 0⟩ : S28)] : List (S28))) (inner := [.int .i64 20, .int .i64 0]) (ok := fun _ => True) (okp := fun _ => True) ?hr ?hp (fun _ hk => hk) trivial (Below.refl _ _) (Nat.le_refl _) (by simp) ?_; (case hd => rfl); (case hg => rfl); (case hr => first | (go_simp; done) | (go_simp; rfl)); (case hp => exact (Reps.c2 (show Kd.M k28 _ _ _ (⟨20, 0⟩ : S28) [.int .i64 20, .int .i64 0] from (k28_mkM _ _ _ (⟨20, 0⟩ : S28) )) (Reps.none _ _))); intro v176 w107 ho108 hb hg_ hnew_; clear hg_ hnew_; (first | rw [← Ny175.out] at ho108 | (simp only [Int.reduceToNat] at ho108; rw [← Ny175.out] at ho108)); have n0_ := Aside0.mk (Kd.R_elder' (by (with_reducible repeat (first | apply Kd.R_alloc | apply Kd.R_drewN | apply Kd.R_drew)); exact HO_1.out) (Kd.R_base ho108) hb); have n1_ := Aside0.mk (Kd.R_lower (Kd.R_new' ho108 (Kd.R_lt (by (with_reducible repeat (first | apply Kd.R_alloc | apply Kd.R_drewN | apply Kd.R_drew)); exact HO_1.out))) (below_size (by repeat (first | (with_reducible first | exact HB.out | apply below_alloc | apply pw_below_drewN | apply below_drew1) | exact HB.out)))); have n2_ := Aside0.mk (below_step (by repeat (first | (with_reducible first | exact HB.out | apply below_alloc | apply pw_below_drewN | apply below_drew1) | exact HB.out)) hb); clear HO_1; clear HB; have HO_1 := n0_; have HO177 := n1_; have HB := n2_; clear n0_ n1_ n2_; clear hb ho108) | ((with_reducible refine gate_dst (N := 39) rfl ?_); (try (refine gate_guard (by rfl) ?_; dsimp only)); refine Kd.R_lit (Kd.int .i64) _ 3 ?hg (N := 39) ?hd (xs := ([1, 9] : List Int)) (inner := [.int .i64 1, .int .i64 9]) (ok := fun _ => True) (okp := fun _ => True) ?hr ?hp (fun _ hk => hk) trivial (Below.refl _ _) (Nat.le_refl _) (by simp) ?_; (case hd => rfl); (case hg => rfl); (case hr => first | (go_simp; done) | (go_simp; rfl)); (case hp => exact (Reps.one (show Kd.M (Kd.int .i64) _ _ _ 1 [.int .i64 1] from rfl) (Reps.one (show Kd.M (Kd.int .i64) _ _ _ 9 [.int .i64 9] from rfl) (Reps.none _ _)))); intro v179 w109 ho110 hb hg_ hnew_; clear hg_ hnew_; (first | rw [← Ny178.out] at ho110 | (simp only [Int.reduceToNat] at ho110; rw [← Ny178.out] at ho110)); have n0_ := Aside0.mk (Kd.R_below (by (with_reducible repeat (first | apply Kd.R_alloc | apply Kd.R_drewN | apply Kd.R_drew)); exact HO_1.out) hb); have n1_ := Aside0.mk (Kd.R_below (by (with_reducible repeat (first | apply Kd.R_alloc | apply Kd.R_drewN | apply Kd.R_drew)); exact HO177.out) hb); have n2_ := Aside0.mk (Kd.R_lower ho110 (below_size (by repeat (first | (with_reducible first | exact HB.out | apply below_alloc | apply pw_below_drewN | apply below_drew1) | exact HB.out)))); have n3_ := Aside0.mk (below_step (by repeat (first | (with_reducible first | exact HB.out | apply below_alloc | apply pw_below_drewN | apply below_drew1) | exact HB.out)) hb); clear HO_1; clear HO177; clear HB; have HO_1 := n0_; have HO177 := n1_; have HO180 := n2_; have HB := n3_; clear n0_ n1_ n2_ n3_; clear hb ho110; obtain ⟨Ao111, co111, eo111⟩ := Kd.R_slice HO177.out; subst eo111; obtain ⟨Ao112, co112, eo112⟩ := Kd.R_slice HO180.out; subst eo112) | ((with_reducible refine gate_callee (f := 19) rfl ?_); refine goesL_ (some 40) rfl rfl Tryd.func19 (by kernel_rfl) rfl #[.slice Ao111 y175.length co111, .slice Ao112 y178.length co112] rfl (by (try simp only [List.map_toArray, List.map_cons, List.map_nil]); first | done | rfl | (simp only [List.length_drop, List.length_take]; rfl)) ?_; (with_reducible refine (span_Of.calls kj2 _ _ y175 _ _ y178 t181 _ ?side1 ?side2 ?side3 ?side4 A24.out).mono ?_); (case side1 => repeat (first | exact (Kd.R_reads' HO177.out).2.2 | (with_reducible refine Kd.C_alloc ?_ _) | (with_reducible refine Kd.C_drewN ?_ _) | (with_reducible refine Kd.C_drew ?_))); (case side2 => exact (Kd.R_reads' HO177.out).2.1); (case side3 => repeat (first | exact (Kd.R_reads' HO180.out).2.2 | (with_reducible refine Kd.C_alloc ?_ _) | (with_reducible refine Kd.C_drewN ?_ _) | (with_reducible refine Kd.C_drew ?_))); (case side4 => exact (Kd.R_reads' HO180.out).2.1); rintro e w113 ⟨v182, rfl, ho0, hb⟩; refine ⟨_, rfl, ?_⟩; have n0_ := Aside0.mk (Kd.R_below (by (with_reducible repeat (first | apply Kd.R_alloc | apply Kd.R_drewN | apply Kd.R_drew)); exact HO_1.out) hb); have n1_ := Aside0.mk (Kd.R_below (by (with_reducible repeat (first | apply Kd.R_alloc | apply Kd.R_drewN | apply Kd.R_drew)); exact HO177.out) hb); have n2_ := Aside0.mk (Kd.R_elder' (by (with_reducible repeat (first | apply Kd.R_alloc | apply Kd.R_drewN | apply Kd.R_drew)); exact HO180.out) (Kd.R_base ho0) hb); have n3_ := Aside0.mk (Kd.R_lower (Kd.R_new' ho0 (Kd.R_lt (by (with_reducible repeat (first | apply Kd.R_alloc | apply Kd.R_drewN | apply Kd.R_drew)); exact HO180.out))) (below_size (by repeat (first | (with_reducible first | exact HB.out | apply below_alloc | apply pw_below_drewN | apply below_drew1) | exact HB.out)))); have n4_ := Aside0.mk (below_step (by repeat (first | (with_reducible first | exact HB.out | apply below_alloc | apply pw_below_drewN | apply below_drew1) | exact HB.out)) hb); clear HO_1; clear HO177; clear HO180; clear HB; have HO_1 := n0_; have HO177 := n1_; have HO180 := n2_; have HO183 := n3_; have HB := n4_; clear n0_ n1_ n2_ n3_ n4_; (try clear hb); (try clear hb2); (try clear hk); (try clear hi); (try clear ho0); obtain ⟨Ao114, co114, eo114⟩ := Kd.R_slice HO_1.out; subst eo114) | ((with_reducible refine gate_callee (f := 17) rfl ?_); refine goesL_ (some 42) rfl rfl Tryd.func17 (by kernel_rfl) rfl #[.slice Ao114 t160.length co114, .int .i64 3, .int .i64 9] rfl (by (try simp only [List.map_toArray, List.map_cons, List.map_nil]); first | done | rfl | (simp only [List.length_drop, List.length_take]; rfl)) ?_; (with_reducible refine (span_Has.calls _ _ t160 3 9 true _ ?side1 ?side2 A25.out).mono ?_); (case side1 => repeat (first | exact (Kd.R_reads' HO_1.out).2.2 | (with_reducible refine Kd.C_alloc ?_ _) | (with_reducible refine Kd.C_drewN ?_ _) | (with_reducible refine Kd.C_drew ?_))); (case side2 => exact (Kd.R_reads' HO_1.out).2.1); rintro e w115 ⟨rfl, hb⟩; refine ⟨_, rfl, ?_⟩; have n0_ := Aside0.mk (Kd.R_below (by (with_reducible repeat (first | apply Kd.R_alloc | apply Kd.R_drewN | apply Kd.R_drew)); exact HO_1.out) hb); have n1_ := Aside0.mk (Kd.R_below (by (with_reducible repeat (first | apply Kd.R_alloc | apply Kd.R_drewN | apply Kd.R_drew)); exact HO177.out) hb); have n2_ := Aside0.mk (Kd.R_below (by (with_reducible repeat (first | apply Kd.R_alloc | apply Kd.R_drewN | apply Kd.R_drew)); exact HO180.out) hb); have n3_ := Aside0.mk (Kd.R_below (by (with_reducible repeat (first | apply Kd.R_alloc | apply Kd.R_drewN | apply Kd.R_drew)); exact HO183.out) hb); have n4_ := Aside0.mk (below_step (by repeat (first | (with_reducible first | exact HB.out | apply below_alloc | apply pw_below_drewN | apply below_drew1) | exact HB.out)) hb); clear HO_1; clear HO177; clear HO180; clear HO183; clear HB; have HO_1 := n0_; have HO177 := n1_; have HO180 := n2_; have HO183 := n3_; have HB := n4_; clear n0_ n1_ n2_ n3_ n4_; (try clear hb); (try clear hb2); (try clear hk); (try clear hi)) | (go_at_call 17; (with_reducible refine (span_Has.calls _ _ t160 5 9 false _ ?side1 ?side2 A27.out).mono ?_); (case side1 => repeat (first | exact (Kd.R_reads' HO_1.out).2.2 | (with_reducible refine Kd.C_alloc ?_ _) | (with_reducible refine Kd.C_drewN ?_ _) | (with_reducible refine Kd.C_drew ?_))); (case side2 => exact (Kd.R_reads' HO_1.out).2.1); rintro e w116 ⟨rfl, hb⟩; have n0_ := Aside0.mk (Kd.R_below (by (with_reducible repeat (first | apply Kd.R_alloc | apply Kd.R_drewN | apply Kd.R_drew)); exact HO_1.out) hb); have n1_ := Aside0.mk (Kd.R_below (by (with_reducible repeat (first | apply Kd.R_alloc | apply Kd.R_drewN | apply Kd.R_drew)); exact HO177.out) hb); have n2_ := Aside0.mk (Kd.R_below (by (with_reducible repeat (first | apply Kd.R_alloc | apply Kd.R_drewN | apply Kd.R_drew)); exact HO180.out) hb); have n3_ := Aside0.mk (Kd.R_below (by (with_reducible repeat (first | apply Kd.R_alloc | apply Kd.R_drewN | apply Kd.R_drew)); exact HO183.out) hb); have n4_ := Aside0.mk (below_step (by repeat (first | (with_reducible first | exact HB.out | apply below_alloc | apply pw_below_drewN | apply below_drew1) | exact HB.out)) hb); clear HO_1; clear HO177; clear HO180; clear HO183; clear HB; have HO_1 := n0_; have HO177 := n1_; have HO180 := n2_; have HO183 := n3_; have HB := n4_; clear n0_ n1_ n2_ n3_ n4_; (try clear hb); (try clear hb2); (try clear hk); (try clear hi); obtain ⟨Ao117, co117, eo117⟩ := Kd.R_slice HO183.out; subst eo117))
       go_ret
       exact ⟨by first | rfl | (simp [errW_none, errW_some] <;> rfl) | (simp [*, errW_none, errW_some] <;> rfl), by repeat (first | (with_reducible first | exact HB.out | apply below_alloc | apply pw_below_drewN | apply below_drew1) | exact HB.out)⟩
    ·replace c26 := Bool.eq_false_iff.mpr c26
     subst c26
     have H1 : (some false) = some r := by rw [if_neg (show ¬ (false = true) by decide)] at H; exact H
     clear H
     have H := H1
     clear H1
     obtain rfl := Option.some.inj H
     go_wp2_with (first | ((with_reducible refine gate_dst (N := 38) rfl ?_); (try (refine gate_guard (by rfl) ?_; dsimp only)); refine Kd.R_lit k28 _ 28 ?hg (N := 38) ?hd (xs := ([(⟨20, 0⟩ : S28)] : List (S28))) (inner := [.int .i64 20, .int .i64 0]) (ok := fun _ => True) (okp := fun _ => True) ?hr ?hp (fun _ hk => hk) trivial (Below.refl _ _) (Nat.le_refl _) (by simp) ?_; (case hd => rfl); (case hg => rfl); (case hr => first | (go_simp; done) | (go_simp; rfl)); (case hp => exact (Reps.c2 (show Kd.M k28 _ _ _ (⟨20, 0⟩ : S28) [.int .i64 20, .int .i64 0] from (k28_mkM _ _ _ (⟨20, 0⟩ : S28) )) (Reps.none _ _))); intro v176 w118 ho119 hb hg_ hnew_; clear hg_ hnew_; (first | rw [← Ny175.out] at ho119 | (simp only [Int.reduceToNat] at ho119; rw [← Ny175.out] at ho119)); have n0_ := Aside0.mk (Kd.R_elder' (by (with_reducible repeat (first | apply Kd.R_alloc | apply Kd.R_drewN | apply Kd.R_drew)); exact HO_1.out) (Kd.R_base ho119) hb); have n1_ := Aside0.mk (Kd.R_lower (Kd.R_new' ho119 (Kd.R_lt (by (with_reducible repeat (first | apply Kd.R_alloc | apply Kd.R_drewN | apply Kd.R_drew)); exact HO_1.out))) (below_size (by repeat (first | (with_reducible first | exact HB.out | apply below_alloc | apply pw_below_drewN | apply below_drew1) | exact HB.out)))); have n2_ := Aside0.mk (below_step (by repeat (first | (with_reducible first | exact HB.out | apply below_alloc | apply pw_below_drewN | apply below_drew1) | exact HB.out)) hb); clear HO_1; clear HB; have HO_1 := n0_; have HO177 := n1_; have HB := n2_; clear n0_ n1_ n2_; clear hb ho119) | ((with_reducible refine gate_dst (N := 39) rfl ?_); (try (refine gate_guard (by rfl) ?_; dsimp only)); refine Kd.R_lit (Kd.int .i64) _ 3 ?hg (N := 39) ?hd (xs := ([1, 9] : List Int)) (inner := [.int .i64 1, .int .i64 9]) (ok := fun _ => True) (okp := fun _ => True) ?hr ?hp (fun _ hk => hk) trivial (Below.refl _ _) (Nat.le_refl _) (by simp) ?_; (case hd => rfl); (case hg => rfl); (case hr => first | (go_simp; done) | (go_simp; rfl)); (case hp => exact (Reps.one (show Kd.M (Kd.int .i64) _ _ _ 1 [.int .i64 1] from rfl) (Reps.one (show Kd.M (Kd.int .i64) _ _ _ 9 [.int .i64 9] from rfl) (Reps.none _ _)))); intro v179 w120 ho121 hb hg_ hnew_; clear hg_ hnew_; (first | rw [← Ny178.out] at ho121 | (simp only [Int.reduceToNat] at ho121; rw [← Ny178.out] at ho121)); have n0_ := Aside0.mk (Kd.R_below (by (with_reducible repeat (first | apply Kd.R_alloc | apply Kd.R_drewN | apply Kd.R_drew)); exact HO_1.out) hb); have n1_ := Aside0.mk (Kd.R_below (by (with_reducible repeat (first | apply Kd.R_alloc | apply Kd.R_drewN | apply Kd.R_drew)); exact HO177.out) hb); have n2_ := Aside0.mk (Kd.R_lower ho121 (below_size (by repeat (first | (with_reducible first | exact HB.out | apply below_alloc | apply pw_below_drewN | apply below_drew1) | exact HB.out)))); have n3_ := Aside0.mk (below_step (by repeat (first | (with_reducible first | exact HB.out | apply below_alloc | apply pw_below_drewN | apply below_drew1) | exact HB.out)) hb); clear HO_1; clear HO177; clear HB; have HO_1 := n0_; have HO177 := n1_; have HO180 := n2_; have HB := n3_; clear n0_ n1_ n2_ n3_; clear hb ho121; obtain ⟨Ao122, co122, eo122⟩ := Kd.R_slice HO177.out; subst eo122; obtain ⟨Ao123, co123, eo123⟩ := Kd.R_slice HO180.out; subst eo123) | ((with_reducible refine gate_callee (f := 19) rfl ?_); refine goesL_ (some 40) rfl rfl Tryd.func19 (by kernel_rfl) rfl #[.slice Ao122 y175.length co122, .slice Ao123 y178.length co123] rfl (by (try simp only [List.map_toArray, List.map_cons, List.map_nil]); first | done | rfl | (simp only [List.length_drop, List.length_take]; rfl)) ?_; (with_reducible refine (span_Of.calls kj2 _ _ y175 _ _ y178 t181 _ ?side1 ?side2 ?side3 ?side4 A24.out).mono ?_); (case side1 => repeat (first | exact (Kd.R_reads' HO177.out).2.2 | (with_reducible refine Kd.C_alloc ?_ _) | (with_reducible refine Kd.C_drewN ?_ _) | (with_reducible refine Kd.C_drew ?_))); (case side2 => exact (Kd.R_reads' HO177.out).2.1); (case side3 => repeat (first | exact (Kd.R_reads' HO180.out).2.2 | (with_reducible refine Kd.C_alloc ?_ _) | (with_reducible refine Kd.C_drewN ?_ _) | (with_reducible refine Kd.C_drew ?_))); (case side4 => exact (Kd.R_reads' HO180.out).2.1); rintro e w124 ⟨v182, rfl, ho0, hb⟩; refine ⟨_, rfl, ?_⟩; have n0_ := Aside0.mk (Kd.R_below (by (with_reducible repeat (first | apply Kd.R_alloc | apply Kd.R_drewN | apply Kd.R_drew)); exact HO_1.out) hb); have n1_ := Aside0.mk (Kd.R_below (by (with_reducible repeat (first | apply Kd.R_alloc | apply Kd.R_drewN | apply Kd.R_drew)); exact HO177.out) hb); have n2_ := Aside0.mk (Kd.R_elder' (by (with_reducible repeat (first | apply Kd.R_alloc | apply Kd.R_drewN | apply Kd.R_drew)); exact HO180.out) (Kd.R_base ho0) hb); have n3_ := Aside0.mk (Kd.R_lower (Kd.R_new' ho0 (Kd.R_lt (by (with_reducible repeat (first | apply Kd.R_alloc | apply Kd.R_drewN | apply Kd.R_drew)); exact HO180.out))) (below_size (by repeat (first | (with_reducible first | exact HB.out | apply below_alloc | apply pw_below_drewN | apply below_drew1) | exact HB.out)))); have n4_ := Aside0.mk (below_step (by repeat (first | (with_reducible first | exact HB.out | apply below_alloc | apply pw_below_drewN | apply below_drew1) | exact HB.out)) hb); clear HO_1; clear HO177; clear HO180; clear HB; have HO_1 := n0_; have HO177 := n1_; have HO180 := n2_; have HO183 := n3_; have HB := n4_; clear n0_ n1_ n2_ n3_ n4_; (try clear hb); (try clear hb2); (try clear hk); (try clear hi); (try clear ho0); obtain ⟨Ao125, co125, eo125⟩ := Kd.R_slice HO_1.out; subst eo125) | ((with_reducible refine gate_callee (f := 17) rfl ?_); refine goesL_ (some 42) rfl rfl Tryd.func17 (by kernel_rfl) rfl #[.slice Ao125 t160.length co125, .int .i64 3, .int .i64 9] rfl (by (try simp only [List.map_toArray, List.map_cons, List.map_nil]); first | done | rfl | (simp only [List.length_drop, List.length_take]; rfl)) ?_; (with_reducible refine (span_Has.calls _ _ t160 3 9 false _ ?side1 ?side2 A25.out).mono ?_); (case side1 => repeat (first | exact (Kd.R_reads' HO_1.out).2.2 | (with_reducible refine Kd.C_alloc ?_ _) | (with_reducible refine Kd.C_drewN ?_ _) | (with_reducible refine Kd.C_drew ?_))); (case side2 => exact (Kd.R_reads' HO_1.out).2.1); rintro e w126 ⟨rfl, hb⟩; refine ⟨_, rfl, ?_⟩; have n0_ := Aside0.mk (Kd.R_below (by (with_reducible repeat (first | apply Kd.R_alloc | apply Kd.R_drewN | apply Kd.R_drew)); exact HO_1.out) hb); have n1_ := Aside0.mk (Kd.R_below (by (with_reducible repeat (first | apply Kd.R_alloc | apply Kd.R_drewN | apply Kd.R_drew)); exact HO177.out) hb); have n2_ := Aside0.mk (Kd.R_below (by (with_reducible repeat (first | apply Kd.R_alloc | apply Kd.R_drewN | apply Kd.R_drew)); exact HO180.out) hb); have n3_ := Aside0.mk (Kd.R_below (by (with_reducible repeat (first | apply Kd.R_alloc | apply Kd.R_drewN | apply Kd.R_drew)); exact HO183.out) hb); have n4_ := Aside0.mk (below_step (by repeat (first | (with_reducible first | exact HB.out | apply below_alloc | apply pw_below_drewN | apply below_drew1) | exact HB.out)) hb); clear HO_1; clear HO177; clear HO180; clear HO183; clear HB; have HO_1 := n0_; have HO177 := n1_; have HO180 := n2_; have HO183 := n3_; have HB := n4_; clear n0_ n1_ n2_ n3_ n4_; (try clear hb); (try clear hb2); (try clear hk); (try clear hi)))
     go_ret
     exact ⟨by first | rfl | (simp [errW_none, errW_some] <;> rfl) | (simp [*, errW_none, errW_some] <;> rfl), by repeat (first | (with_reducible first | exact HB.out | apply below_alloc | apply pw_below_drewN | apply below_drew1) | exact HB.out)⟩
end Go.Proofs.YtidcchopmbodkaaDoor.Sp
end
section
namespace Go.Proofs.YtidcchopmbodkaaDoor.Sp
open Go.RowKit Go.Proofs.YtidcchopmbodkaaDoorW.PrintWords Go.Proofs.YtidcchopmbodkaaDoorW.PrintLast Go.Proofs.YtidcchopmbodkaaDoorW.PrintMore
attribute [local go_sem] max2_int min2_int max_two min_two max_three min_three max_four min_four   -- for this text's walks alone
set_option linter.unusedVariables false
set_option linter.unusedSimpArgs false
mutual
def postbaglaw4_long.l0 : Nat → List (S38) → Int → Int → Option (Bool)
 | 0, _, _, _ => none
 | k + 1, x0, x3, x4 => if x4 < (x0.length : Int) then (postbaglaw4_long.j1 k x0 x3 x4 (decide (x4 < 30))) else (postbaglaw4_long.j1 k x0 x3 x4 false)
def postbaglaw4_long.j1 : Nat → List (S38) → Int → Int → Bool → Option (Bool)
 | 0, _, _, _, _ => none
 | k + 1, x0, x3, x4, x13 => if x13 = true then (if 0 ≤ x4 then (if x4 < (x0.length : Int) then (postbaglaw4_long.l1 k x0 (wrap64 ((wrap64 ((wrap64 (x3 + (((rd_T38 x0 x4).f1).length : Int))) + (((rd_T38 x0 x4).f4).length : Int))) + (((rd_T38 x0 x4).f5).length : Int))) x4 0) else (none)) else (none)) else (some (decide ((x0.length : Int) > 30)))
def postbaglaw4_long.l1 : Nat → List (S38) → Int → Int → Int → Option (Bool)
 | 0, _, _, _, _ => none
 | k + 1, x0, x3, x4, x5 => if 0 ≤ x4 then (if x4 < (x0.length : Int) then (if x5 < (((rd_T38 x0 x4).f5).length : Int) then (if x3 ≤ 3000 then (if 0 ≤ x5 then (postbaglaw4_long.l1 k x0 (wrap64 (x3 + ((rd_L2 ((rd_T38 x0 x4).f5) x5).length : Int))) x4 (wrap64 (x5 + 1))) else (none)) else (if x3 > 3000 then (some true) else (postbaglaw4_long.l0 k x0 x3 (wrap64 (x4 + 1))))) else (if x3 > 3000 then (some true) else (postbaglaw4_long.l0 k x0 x3 (wrap64 (x4 + 1))))) else (none)) else (none)
end
def postbaglaw4_long.f (k : Nat) (l0 : List (S38)) : Option (Bool) := postbaglaw4_long.l0 k l0 0 0
set_option maxHeartbeats 8000000 in
set_option maxRecDepth 100000 in
theorem postbaglaw4_long.calls (k : Nat) (A0 : Option Addr) (c0 : Nat) (l0 : List (S38)) (r : Bool) (w : World) (hr0 : Kd.C k38 w A0 l0.length l0) (hc0 : l0.length ≤ c0) (h : postbaglaw4_long.f k l0 = some r) :
  Calls Tryd.prog 21 #[.slice A0 l0.length c0] w fun e w' => e = .returned (.bool r) ∧ Drawn0 w w' := by
 have HR0 := Aside0.mk hr0
 have HC0 := Aside0.mk hc0
 clear hr0 hc0
 have H : (postbaglaw4_long.l0 k l0 0 0) = some r := h
 clear h
 have H' := Aside0.mk H
 clear H
 go_enter Tryd.func21, Tryd.ntmps21
 go_wp2
 repeat (go_quiet (fail); try go_wp2)
 go_loopg [3, 4] k (fun kq v3 v4 w' => ∃ (x3_1 : Int) (x4_1 : Int), v3 = .int .i64 x3_1 ∧ v4 = .int .i64 x4_1 ∧ Aside0 (postbaglaw4_long.l0 kq l0 x3_1 x4_1 = some r) ∧ Aside0 (kq ≤ k) ∧ Drawn0 w w')
 case atStart => exact ⟨(0), (0), (by first | rfl | (simp; done) | (simp [*]; done)), (by first | rfl | (simp; done) | (simp [*]; done)), H', ⟨Nat.le_refl _⟩, by repeat (first | exact Drawn0.refl _ | apply Drawn0.step)⟩
 case round =>
  clear H'
  obtain ⟨x3_1, x4_1, rfl, rfl, HA, HK1, ⟨m1, rfl⟩⟩ := hrel
  cases gk with
  | zero => exact absurd HA.out (by simp [postbaglaw4_long.l0])
  | succ k1 =>
   have H := HA.out
   clear HA
   simp only [postbaglaw4_long.l0] at H
   have HC2 := Aside0.mk H
   clear H
   go_upto_region 3 with (fail)
   repeat (go_quiet (fail); go_upto_region 3 with (fail))
   go_cut [13] (fun v13 wc => ∃ (kq : Nat) (x13_1 : Bool), v13 = .bool x13_1 ∧ Aside0 (postbaglaw4_long.j1 kq l0 x3_1 x4_1 x13_1 = some r) ∧ Aside0 (kq ≤ k1) ∧ Drawn0 w wc)
   case first =>
    have H := HC2.out
    clear HC2
    by_cases c3 : x4_1 < (l0.length : Int)
    ·rw [if_pos c3] at H
     have c3b0 : decide (x4_1 < (l0.length : Int)) = true := decide_eq_true c3
     clear c3
     (first | rw [c3b0] | (simp only [i64_w, i32_w]; rw [c3b0]) | skip)
     have H' := Aside0.mk H
     clear H
     go_wp2
     repeat (go_quiet (fail); try go_wp2)
     go_meet
     case rel => exact ⟨_, (decide (x4_1 < 30)), (by first | rfl | (simp; done) | (simp [*]; done)), H', ⟨by have := HK1.out; first | omega | exact Nat.le_refl _⟩, by repeat (first | exact Drawn0.refl _ | apply Drawn0.step)⟩
    ·rw [if_neg c3] at H
     have c3b0 : decide (x4_1 < (l0.length : Int)) = false := decide_eq_false c3
     clear c3
     (first | rw [c3b0] | (simp only [i64_w, i32_w]; rw [c3b0]) | skip)
     have H' := Aside0.mk H
     clear H
     go_wp2
     repeat (go_quiet (fail); try go_wp2)
     go_meet
     case rel => exact ⟨_, (false), (by first | rfl | (simp; done) | (simp [*]; done)), H', ⟨by have := HK1.out; first | omega | exact Nat.le_refl _⟩, by repeat (first | exact Drawn0.refl _ | apply Drawn0.step)⟩
   case rest =>
    clear HC2
    try clear c2
    try clear p2
    try clear c3
    try clear c3b0
    obtain ⟨kq, x13_1, rfl, HA, HJ1, ⟨mc1, rfl⟩⟩ := hcut
    cases kq with
    | zero => exact absurd HA.out (by simp [postbaglaw4_long.j1])
    | succ kj1 =>
     have H := HA.out
     clear HA
     simp only [postbaglaw4_long.j1] at H
     by_cases c4 : x13_1 = true
     ·subst c4
      have H1 : (if 0 ≤ x4_1 then (if x4_1 < (l0.length : Int) then (postbaglaw4_long.l1 kj1 l0 (wrap64 ((wrap64 ((wrap64 (x3_1 + (((rd_T38 l0 x4_1).f1).length : Int))) + (((rd_T38 l0 x4_1).f4).length : Int))) + (((rd_T38 l0 x4_1).f5).length : Int))) x4_1 0) else (none)) else (none)) = some r := by rw [if_pos rfl] at H; exact H
      clear H
      have H := H1
      clear H1
      by_cases c5 : 0 ≤ x4_1
      ·rw [if_pos c5] at H
       have c5b0 : decide (0 ≤ x4_1) = true := decide_eq_true c5
       clear c5
       by_cases c6 : x4_1 < (l0.length : Int)
       ·rw [if_pos c6] at H
        have c6b0 : decide (x4_1 < (l0.length : Int)) = true := decide_eq_true c6
        clear c6
        have H' := Aside0.mk H
        clear H
        have p233 : 0 ≤ (x4_1 : Int) := of_decide_eq_true (by first | (with_reducible assumption) | assumption)
        have q233 : x4_1 < (l0.length : Int) := of_decide_eq_true (by first | (with_reducible assumption) | assumption)
        obtain ⟨ad233, A233_1, c233_1, A233_4, c233_4, A233_5, c233_5, e233, hx233_0, hx233_1, hx233_2, hx233_3, hx233_4, hx233_5, hl233_1, hi233_1, hl233_4, hi233_4, hl233_5, hi233_5⟩ := at_T38 HR0.out x4_1 p233 q233
        cases e233
        have HR233_1 := Aside0.mk hi233_1
        have HC233_1 := Aside0.mk hl233_1
        clear hi233_1 hl233_1
        have HR233_4 := Aside0.mk hi233_4
        have HC233_4 := Aside0.mk hl233_4
        clear hi233_4 hl233_4
        have HR233_5 := Aside0.mk hi233_5
        have HC233_5 := Aside0.mk hl233_5
        clear hi233_5 hl233_5
        replace p233 := eq_true p233
        replace q233 := eq_true q233
        have p234 : 0 ≤ (x4_1 : Int) := of_decide_eq_true (by first | (with_reducible assumption) | assumption)
        have q234 : x4_1 < (l0.length : Int) := of_decide_eq_true (by first | (with_reducible assumption) | assumption)
        obtain ⟨ad234, A234_1, c234_1, A234_4, c234_4, A234_5, c234_5, e234, hx234_0, hx234_1, hx234_2, hx234_3, hx234_4, hx234_5, hl234_1, hi234_1, hl234_4, hi234_4, hl234_5, hi234_5⟩ := at_T38 HR0.out x4_1 p234 q234
        obtain rfl : ad233 = ad234 := (by injection e234)
        have HR234_1 := Aside0.mk hi234_1
        have HC234_1 := Aside0.mk hl234_1
        clear hi234_1 hl234_1
        have HR234_4 := Aside0.mk hi234_4
        have HC234_4 := Aside0.mk hl234_4
        clear hi234_4 hl234_4
        have HR234_5 := Aside0.mk hi234_5
        have HC234_5 := Aside0.mk hl234_5
        clear hi234_5 hl234_5
        replace p234 := eq_true p234
        replace q234 := eq_true q234
        have ea_ := Option.some.inj (hx233_1.symm.trans hx234_1)
        injection ea_ with ea_ en_ ec_
        subst ea_
        subst ec_
        clear en_
        have ea_ := Option.some.inj (hx233_4.symm.trans hx234_4)
        injection ea_ with ea_ en_ ec_
        subst ea_
        subst ec_
        clear en_
        have ea_ := Option.some.inj (hx233_5.symm.trans hx234_5)
        injection ea_ with ea_ en_ ec_
        subst ea_
        subst ec_
        clear en_
        have p235 : 0 ≤ (x4_1 : Int) := of_decide_eq_true (by first | (with_reducible assumption) | assumption)
        have q235 : x4_1 < (l0.length : Int) := of_decide_eq_true (by first | (with_reducible assumption) | assumption)
        obtain ⟨ad235, A235_1, c235_1, A235_4, c235_4, A235_5, c235_5, e235, hx235_0, hx235_1, hx235_2, hx235_3, hx235_4, hx235_5, hl235_1, hi235_1, hl235_4, hi235_4, hl235_5, hi235_5⟩ := at_T38 HR0.out x4_1 p235 q235
        obtain rfl : ad233 = ad235 := (by injection e235)
        have HR235_1 := Aside0.mk hi235_1
        have HC235_1 := Aside0.mk hl235_1
        clear hi235_1 hl235_1
        have HR235_4 := Aside0.mk hi235_4
        have HC235_4 := Aside0.mk hl235_4
        clear hi235_4 hl235_4
        have HR235_5 := Aside0.mk hi235_5
        have HC235_5 := Aside0.mk hl235_5
        clear hi235_5 hl235_5
        replace p235 := eq_true p235
        replace q235 := eq_true q235
        have ea_ := Option.some.inj (hx233_1.symm.trans hx235_1)
        injection ea_ with ea_ en_ ec_
        subst ea_
        subst ec_
        clear en_
        have ea_ := Option.some.inj (hx233_4.symm.trans hx235_4)
        injection ea_ with ea_ en_ ec_
        subst ea_
        subst ec_
        clear en_
        have ea_ := Option.some.inj (hx233_5.symm.trans hx235_5)
        injection ea_ with ea_ en_ ec_
        subst ea_
        subst ec_
        clear en_
        go_wp2
        repeat (go_quiet (fail); try go_wp2)
        go_loopg [3, 5] kj1 (fun kq v3 v5 w' => ∃ (x3_3 : Int) (x5_3 : Int), v3 = .int .i64 x3_3 ∧ v5 = .int .i64 x5_3 ∧ Aside0 (postbaglaw4_long.l1 kq l0 x3_3 x4_1 x5_3 = some r) ∧ Aside0 (kq ≤ kj1) ∧ Drawn0 w w')
        case atStart => exact ⟨(wrap64 ((wrap64 ((wrap64 (x3_1 + (((rd_T38 l0 x4_1).f1).length : Int))) + (((rd_T38 l0 x4_1).f4).length : Int))) + (((rd_T38 l0 x4_1).f5).length : Int))), (0), (by first | rfl | (simp; done) | (simp [*]; done)), (by first | rfl | (simp; done) | (simp [*]; done)), H', ⟨Nat.le_refl _⟩, by repeat (first | exact Drawn0.refl _ | apply Drawn0.step)⟩
        case round =>
         clear H'
         try clear c1
         try clear c2
         try clear p2
         try clear q2
         try clear hx2
         try clear c3
         try clear c3b0
         try clear c4
         try clear c5
         try clear c5b0
         try clear c6
         try clear c6b0
         try clear p6
         try clear hx233_0
         try clear hx233_1
         try clear hx233_2
         try clear hx233_3
         try clear hx233_4
         try clear hx233_5
         try clear hx234_0
         try clear hx234_1
         try clear hx234_2
         try clear hx234_3
         try clear hx234_4
         try clear hx234_5
         try clear hx235_0
         try clear hx235_1
         try clear hx235_2
         try clear hx235_3
         try clear hx235_4
         try clear hx235_5
         try clear p2
         try clear p233
         try clear p234
         try clear p235
         try clear q233
         try clear q234
         try clear q235
         obtain ⟨x3_3, x5_3, rfl, rfl, HA, HK3, ⟨m3, rfl⟩⟩ := hrel
         cases gk with
         | zero => exact absurd HA.out (by simp [postbaglaw4_long.l1])
         | succ k3 =>
          have H := HA.out
          clear HA
          simp only [postbaglaw4_long.l1] at H
          by_cases c7 : 0 ≤ x4_1
          ·rw [if_pos c7] at H
           have c7b0 : decide (0 ≤ x4_1) = true := decide_eq_true c7
           clear c7
           by_cases c8 : x4_1 < (l0.length : Int)
           ·rw [if_pos c8] at H
            have c8b0 : decide (x4_1 < (l0.length : Int)) = true := decide_eq_true c8
            clear c8
            by_cases c9 : x5_3 < (((rd_T38 l0 x4_1).f5).length : Int)
            ·rw [if_pos c9] at H
             have c9b0 : decide (x5_3 < (((rd_T38 l0 x4_1).f5).length : Int)) = true := decide_eq_true c9
             clear c9
             by_cases c10 : x3_3 ≤ 3000
             ·rw [if_pos c10] at H
              have c10b0 : decide (x3_3 ≤ 3000) = true := decide_eq_true c10
              clear c10
              by_cases c11 : 0 ≤ x5_3
              ·rw [if_pos c11] at H
               have c11b0 : decide (0 ≤ x5_3) = true := decide_eq_true c11
               clear c11
               have H' := Aside0.mk H
               clear H
               have p236 : 0 ≤ (x4_1 : Int) := of_decide_eq_true (by first | (with_reducible assumption) | assumption)
               have q236 : x4_1 < (l0.length : Int) := of_decide_eq_true (by first | (with_reducible assumption) | assumption)
               obtain ⟨ad236, A236_1, c236_1, A236_4, c236_4, A236_5, c236_5, e236, hx236_0, hx236_1, hx236_2, hx236_3, hx236_4, hx236_5, hl236_1, hi236_1, hl236_4, hi236_4, hl236_5, hi236_5⟩ := at_T38 HR0.out x4_1 p236 q236
               obtain rfl : ad233 = ad236 := (by injection e236)
               have HR236_1 := Aside0.mk hi236_1
               have HC236_1 := Aside0.mk hl236_1
               clear hi236_1 hl236_1
               have HR236_4 := Aside0.mk hi236_4
               have HC236_4 := Aside0.mk hl236_4
               clear hi236_4 hl236_4
               have HR236_5 := Aside0.mk hi236_5
               have HC236_5 := Aside0.mk hl236_5
               clear hi236_5 hl236_5
               replace p236 := eq_true p236
               replace q236 := eq_true q236
               have p237 : 0 ≤ (x4_1 : Int) := of_decide_eq_true (by first | (with_reducible assumption) | assumption)
               have q237 : x4_1 < (l0.length : Int) := of_decide_eq_true (by first | (with_reducible assumption) | assumption)
               obtain ⟨ad237, A237_1, c237_1, A237_4, c237_4, A237_5, c237_5, e237, hx237_0, hx237_1, hx237_2, hx237_3, hx237_4, hx237_5, hl237_1, hi237_1, hl237_4, hi237_4, hl237_5, hi237_5⟩ := at_T38 HR0.out x4_1 p237 q237
               obtain rfl : ad233 = ad237 := (by injection e237)
               have HR237_1 := Aside0.mk hi237_1
               have HC237_1 := Aside0.mk hl237_1
               clear hi237_1 hl237_1
               have HR237_4 := Aside0.mk hi237_4
               have HC237_4 := Aside0.mk hl237_4
               clear hi237_4 hl237_4
               have HR237_5 := Aside0.mk hi237_5
               have HC237_5 := Aside0.mk hl237_5
               clear hi237_5 hl237_5
               replace p237 := eq_true p237
               replace q237 := eq_true q237
               have ea_ := Option.some.inj (hx236_1.symm.trans hx237_1)
               injection ea_ with ea_ en_ ec_
               subst ea_
               subst ec_
               clear en_
               have ea_ := Option.some.inj (hx236_4.symm.trans hx237_4)
               injection ea_ with ea_ en_ ec_
               subst ea_
               subst ec_
               clear en_
               have ea_ := Option.some.inj (hx236_5.symm.trans hx237_5)
               injection ea_ with ea_ en_ ec_
               subst ea_
               subst ec_
               clear en_
               have p238 : 0 ≤ (x5_3 : Int) := of_decide_eq_true (by first | (with_reducible assumption) | assumption)
               have q238 : x5_3 < (((rd_T38 l0 x4_1).f5).length : Int) := of_decide_eq_true (by first | (with_reducible assumption) | assumption)
               obtain ⟨ad238, A238_0, c238_0, e238, hx238_0, hl238_0, hi238_0⟩ := at_L2 HR237_5.out x5_3 p238 q238
               cases e238
               have HR238_0 := Aside0.mk hi238_0
               have HC238_0 := Aside0.mk hl238_0
               clear hi238_0 hl238_0
               replace p238 := eq_true p238
               replace q238 := eq_true q238
               go_wp2
               repeat (go_quiet (fail); try go_wp2)
               go_roundg k3
               case measure => have := HK1.out; have := HJ1.out; have := HK3.out; omega
               case rel => exact ⟨(wrap64 (x3_3 + ((rd_L2 ((rd_T38 l0 x4_1).f5) x5_3).length : Int))), (wrap64 (x5_3 + 1)), (by first | rfl | (simp; done) | (simp [*]; done)), (by first | rfl | (simp; done) | (simp [*]; done)), H', ⟨by have := HK1.out; have := HJ1.out; have := HK3.out; omega⟩, by repeat (first | exact Drawn0.refl _ | apply Drawn0.step)⟩
              ·rw [if_neg c11] at H
               exact absurd H (by simp)
             ·rw [if_neg c10] at H
              have c10b0 : decide (x3_3 ≤ 3000) = false := decide_eq_false c10
              clear c10
              by_cases c12 : x3_3 > 3000
              ·rw [if_pos c12] at H
               have c12b0 : decide (3000 < x3_3) = true := decide_eq_true c12
               clear c12
               obtain rfl := Option.some.inj H
               have p236 : 0 ≤ (x4_1 : Int) := of_decide_eq_true (by first | (with_reducible assumption) | assumption)
               have q236 : x4_1 < (l0.length : Int) := of_decide_eq_true (by first | (with_reducible assumption) | assumption)
               obtain ⟨ad236, A236_1, c236_1, A236_4, c236_4, A236_5, c236_5, e236, hx236_0, hx236_1, hx236_2, hx236_3, hx236_4, hx236_5, hl236_1, hi236_1, hl236_4, hi236_4, hl236_5, hi236_5⟩ := at_T38 HR0.out x4_1 p236 q236
               obtain rfl : ad233 = ad236 := (by injection e236)
               have HR236_1 := Aside0.mk hi236_1
               have HC236_1 := Aside0.mk hl236_1
               clear hi236_1 hl236_1
               have HR236_4 := Aside0.mk hi236_4
               have HC236_4 := Aside0.mk hl236_4
               clear hi236_4 hl236_4
               have HR236_5 := Aside0.mk hi236_5
               have HC236_5 := Aside0.mk hl236_5
               clear hi236_5 hl236_5
               replace p236 := eq_true p236
               replace q236 := eq_true q236
               go_wp2
               repeat (go_quiet (fail); try go_wp2)
               go_ret
               exact ⟨by first | rfl | (simp; done) | (simp [*]; done), by repeat (first | exact Drawn0.refl _ | apply Drawn0.step)⟩
              ·rw [if_neg c12] at H
               have c12b0 : decide (3000 < x3_3) = false := decide_eq_false c12
               clear c12
               have H' := Aside0.mk H
               clear H
               have p236 : 0 ≤ (x4_1 : Int) := of_decide_eq_true (by first | (with_reducible assumption) | assumption)
               have q236 : x4_1 < (l0.length : Int) := of_decide_eq_true (by first | (with_reducible assumption) | assumption)
               obtain ⟨ad236, A236_1, c236_1, A236_4, c236_4, A236_5, c236_5, e236, hx236_0, hx236_1, hx236_2, hx236_3, hx236_4, hx236_5, hl236_1, hi236_1, hl236_4, hi236_4, hl236_5, hi236_5⟩ := at_T38 HR0.out x4_1 p236 q236
               obtain rfl : ad233 = ad236 := (by injection e236)
               have HR236_1 := Aside0.mk hi236_1
               have HC236_1 := Aside0.mk hl236_1
               clear hi236_1 hl236_1
               have HR236_4 := Aside0.mk hi236_4
               have HC236_4 := Aside0.mk hl236_4
               clear hi236_4 hl236_4
               have HR236_5 := Aside0.mk hi236_5
               have HC236_5 := Aside0.mk hl236_5
               clear hi236_5 hl236_5
               replace p236 := eq_true p236
               replace q236 := eq_true q236
               go_wp2
               repeat (go_quiet (fail); try go_wp2)
               go_roundg k3
               case measure => have := HK1.out; have := HJ1.out; have := HK3.out; omega
               case rel => exact ⟨(x3_3), (wrap64 (x4_1 + 1)), (by first | rfl | (simp; done) | (simp [*]; done)), (by first | rfl | (simp; done) | (simp [*]; done)), H', ⟨by have := HK1.out; have := HJ1.out; have := HK3.out; omega⟩, by repeat (first | exact Drawn0.refl _ | apply Drawn0.step)⟩
            ·rw [if_neg c9] at H
             have c9b0 : decide (x5_3 < (((rd_T38 l0 x4_1).f5).length : Int)) = false := decide_eq_false c9
             clear c9
             by_cases c13 : x3_3 > 3000
             ·rw [if_pos c13] at H
              have c13b0 : decide (3000 < x3_3) = true := decide_eq_true c13
              clear c13
              obtain rfl := Option.some.inj H
              have p236 : 0 ≤ (x4_1 : Int) := of_decide_eq_true (by first | (with_reducible assumption) | assumption)
              have q236 : x4_1 < (l0.length : Int) := of_decide_eq_true (by first | (with_reducible assumption) | assumption)
              obtain ⟨ad236, A236_1, c236_1, A236_4, c236_4, A236_5, c236_5, e236, hx236_0, hx236_1, hx236_2, hx236_3, hx236_4, hx236_5, hl236_1, hi236_1, hl236_4, hi236_4, hl236_5, hi236_5⟩ := at_T38 HR0.out x4_1 p236 q236
              obtain rfl : ad233 = ad236 := (by injection e236)
              have HR236_1 := Aside0.mk hi236_1
              have HC236_1 := Aside0.mk hl236_1
              clear hi236_1 hl236_1
              have HR236_4 := Aside0.mk hi236_4
              have HC236_4 := Aside0.mk hl236_4
              clear hi236_4 hl236_4
              have HR236_5 := Aside0.mk hi236_5
              have HC236_5 := Aside0.mk hl236_5
              clear hi236_5 hl236_5
              replace p236 := eq_true p236
              replace q236 := eq_true q236
              go_wp2
              repeat (go_quiet (fail); try go_wp2)
              go_ret
              exact ⟨by first | rfl | (simp; done) | (simp [*]; done), by repeat (first | exact Drawn0.refl _ | apply Drawn0.step)⟩
             ·rw [if_neg c13] at H
              have c13b0 : decide (3000 < x3_3) = false := decide_eq_false c13
              clear c13
              have H' := Aside0.mk H
              clear H
              have p236 : 0 ≤ (x4_1 : Int) := of_decide_eq_true (by first | (with_reducible assumption) | assumption)
              have q236 : x4_1 < (l0.length : Int) := of_decide_eq_true (by first | (with_reducible assumption) | assumption)
              obtain ⟨ad236, A236_1, c236_1, A236_4, c236_4, A236_5, c236_5, e236, hx236_0, hx236_1, hx236_2, hx236_3, hx236_4, hx236_5, hl236_1, hi236_1, hl236_4, hi236_4, hl236_5, hi236_5⟩ := at_T38 HR0.out x4_1 p236 q236
              obtain rfl : ad233 = ad236 := (by injection e236)
              have HR236_1 := Aside0.mk hi236_1
              have HC236_1 := Aside0.mk hl236_1
              clear hi236_1 hl236_1
              have HR236_4 := Aside0.mk hi236_4
              have HC236_4 := Aside0.mk hl236_4
              clear hi236_4 hl236_4
              have HR236_5 := Aside0.mk hi236_5
              have HC236_5 := Aside0.mk hl236_5
              clear hi236_5 hl236_5
              replace p236 := eq_true p236
              replace q236 := eq_true q236
              go_wp2
              repeat (go_quiet (fail); try go_wp2)
              go_roundg k3
              case measure => have := HK1.out; have := HJ1.out; have := HK3.out; omega
              case rel => exact ⟨(x3_3), (wrap64 (x4_1 + 1)), (by first | rfl | (simp; done) | (simp [*]; done)), (by first | rfl | (simp; done) | (simp [*]; done)), H', ⟨by have := HK1.out; have := HJ1.out; have := HK3.out; omega⟩, by repeat (first | exact Drawn0.refl _ | apply Drawn0.step)⟩
           ·rw [if_neg c8] at H
            exact absurd H (by simp)
          ·rw [if_neg c7] at H
           exact absurd H (by simp)
       ·rw [if_neg c6] at H
        exact absurd H (by simp)
      ·rw [if_neg c5] at H
       exact absurd H (by simp)
     ·replace c4 := Bool.eq_false_iff.mpr c4
      subst c4
      have H1 : (some (decide ((l0.length : Int) > 30))) = some r := by rw [if_neg (show ¬ (false = true) by decide)] at H; exact H
      clear H
      have H := H1
      clear H1
      obtain rfl := Option.some.inj H
      go_wp2
      repeat (go_quiet (fail); try go_wp2)
      go_ret
      exact ⟨by first | rfl | (simp; done) | (simp [*]; done), by repeat (first | exact Drawn0.refl _ | apply Drawn0.step)⟩
end Go.Proofs.YtidcchopmbodkaaDoor.Sp
end
section
namespace Go.Proofs.YtidcchopmbodkaaDoor.Sp
open Go.RowKit Go.Proofs.YtidcchopmbodkaaDoorW.PrintWords Go.Proofs.YtidcchopmbodkaaDoorW.PrintLast Go.Proofs.YtidcchopmbodkaaDoorW.PrintMore
attribute [local go_sem] max2_int min2_int max_two min_two max_three min_three max_four min_four   -- for this text's walks alone
set_option linter.unusedVariables false
set_option linter.unusedSimpArgs false
def postbaglaw4_turn.f (a0 : Int) (a1 : Int) : Option (Int) := if a0 < a1 then (some a0) else (some (wrap64 ((wrap64 ((wrap64 (2 * a1)) - 1)) - a0)))
set_option maxHeartbeats 8000000 in
set_option maxRecDepth 100000 in
theorem postbaglaw4_turn.calls (a0 : Int) (a1 : Int) (r : Int) (w : World) (h : postbaglaw4_turn.f a0 a1 = some r) :
  Calls Tryd.prog 22 #[.int .i64 a0, .int .i64 a1] w fun e w' => e = .returned (.int .i64 r) ∧ Drawn0 w w' := by
 have H : (if a0 < a1 then (some a0) else (some (wrap64 ((wrap64 ((wrap64 (2 * a1)) - 1)) - a0)))) = some r := h
 clear h
 by_cases c3 : a0 < a1
 ·rw [if_pos c3] at H
  have c3b0 : decide (a0 < a1) = true := decide_eq_true c3
  clear c3
  obtain rfl := Option.some.inj H
  go_enter Tryd.func22, Tryd.ntmps22
  go_wp2
  go_ret
  exact ⟨by first | rfl | (simp; done) | (simp [*]; done), by repeat (first | exact Drawn0.refl _ | apply Drawn0.step)⟩
 ·rw [if_neg c3] at H
  have c3b0 : decide (a0 < a1) = false := decide_eq_false c3
  clear c3
  obtain rfl := Option.some.inj H
  go_enter Tryd.func22, Tryd.ntmps22
  go_wp2
  go_ret
  exact ⟨by first | rfl | (simp; done) | (simp [*]; done), by repeat (first | exact Drawn0.refl _ | apply Drawn0.step)⟩
end Go.Proofs.YtidcchopmbodkaaDoor.Sp
end
section
namespace Go.Proofs.YtidcchopmbodkaaDoor.Sp
open Go.RowKit Go.Proofs.YtidcchopmbodkaaDoorW.PrintWords Go.Proofs.YtidcchopmbodkaaDoorW.PrintLast Go.Proofs.YtidcchopmbodkaaDoorW.PrintMore
attribute [local go_sem] max2_int min2_int max_two min_two max_three min_three max_four min_four   -- for this text's walks alone
set_option linter.unusedVariables false
set_option linter.unusedSimpArgs false
mutual
def postbagref4_end.j0 : Nat → ByteArray → Int → Bool → Option (Int × Int)
 | 0, _, _, _ => none
 | k + 1, x0, x1, x16 => if x16 = true then (some (0, wrap64 (x1 + 1))) else (if x1 ≥ (x0.size : Int) then (postbagref4_end.j1 k x0 x1 true) else (if 0 ≤ x1 then (if x1 < (x0.size : Int) then (if (bt x0 x1) < 49 then (postbagref4_end.j1 k x0 x1 true) else (postbagref4_end.j1 k x0 x1 (decide ((bt x0 x1) > 57)))) else (none)) else (none)))
def postbagref4_end.j1 : Nat → ByteArray → Int → Bool → Option (Int × Int)
 | 0, _, _, _ => none
 | k + 1, x0, x1, x34 => if x34 = true then (some ((-1), x1)) else (postbagref4_end.l0 k x0 x1 0)
def postbagref4_end.l0 : Nat → ByteArray → Int → Int → Option (Int × Int)
 | 0, _, _, _ => none
 | k + 1, x0, x1, x6 => if x1 < (x0.size : Int) then (if 0 ≤ x1 then (if (bt x0 x1) ≥ 48 then (postbagref4_end.j3 k x0 x1 x6 (decide ((bt x0 x1) ≤ 57))) else (postbagref4_end.j3 k x0 x1 x6 false)) else (none)) else (postbagref4_end.j3 k x0 x1 x6 false)
def postbagref4_end.j3 : Nat → ByteArray → Int → Int → Bool → Option (Int × Int)
 | 0, _, _, _, _ => none
 | k + 1, x0, x1, x6, x51 => if x51 = true then (if 0 ≤ x1 then (if x1 < (x0.size : Int) then (if (wrap64 ((wrap64 (10 * x6)) + (((bt x0 x1) - 48) % 256))) > 4294967295 then (some ((-1), x1)) else (postbagref4_end.l0 k x0 (wrap64 (x1 + 1)) (wrap64 ((wrap64 (10 * x6)) + (((bt x0 x1) - 48) % 256))))) else (none)) else (none)) else (some (x6, x1))
end
def postbagref4_end.f (k : Nat) (a0 : ByteArray) (a1 : Int) : Option (Int × Int) := if a1 < (a0.size : Int) then (if 0 ≤ a1 then (postbagref4_end.j0 k a0 a1 ((bt a0 a1) == 42)) else (none)) else (postbagref4_end.j0 k a0 a1 false)
set_option maxHeartbeats 8000000 in
set_option maxRecDepth 100000 in
theorem postbagref4_end.calls (k : Nat) (a0 : ByteArray) (a1 : Int) (r1 : Int) (r2 : Int) (w : World) (h : postbagref4_end.f k a0 a1 = some (r1, r2)) :
  Calls Tryd.prog 52 #[.string a0, .int .i64 a1] w fun e w' => e = .returned (.tuple #[.int .i64 r1, .int .i64 r2]) ∧ Drawn0 w w' := by
 have H : (if a1 < (a0.size : Int) then (if 0 ≤ a1 then (postbagref4_end.j0 k a0 a1 ((bt a0 a1) == 42)) else (none)) else (postbagref4_end.j0 k a0 a1 false)) = some (r1, r2) := h
 clear h
 have HC3 := Aside0.mk H
 clear H
 go_enter Tryd.func52, Tryd.ntmps52
 go_upto_region 1 with (fail)
 go_cut [16] (fun v16 wc => ∃ (kq : Nat) (x16_2 : Bool), v16 = .bool x16_2 ∧ Aside0 (postbagref4_end.j0 kq a0 a1 x16_2 = some (r1, r2)) ∧ Aside0 (kq ≤ k) ∧ Drawn0 w wc)
 case first =>
  have H := HC3.out
  clear HC3
  by_cases c4 : a1 < (a0.size : Int)
  ·rw [if_pos c4] at H
   have c4b0 : decide (a1 < (a0.size : Int)) = true := decide_eq_true c4
   clear c4
   (first | rw [c4b0] | (simp only [i64_w, i32_w]; rw [c4b0]) | skip)
   by_cases c5 : 0 ≤ a1
   ·rw [if_pos c5] at H
    have c5b0 : decide (0 ≤ a1) = true := decide_eq_true c5
    clear c5
    have H' := Aside0.mk H
    clear H
    have p6 : 0 ≤ (a1 : Int) := of_decide_eq_true (by first | (with_reducible assumption) | assumption)
    have q6 : a1 < (a0.size : Int) := of_decide_eq_true (by first | (with_reducible assumption) | assumption)
    have hx6 := bt_at a0 a1
    replace p6 := eq_true p6
    replace q6 := eq_true q6
    go_wp2
    go_meet
    case rel => exact ⟨_, (((bt a0 a1) == 42)), (by first | rfl | (simp; done) | (simp [*]; done)), H', ⟨by first | omega | exact Nat.le_refl _⟩, by repeat (first | exact Drawn0.refl _ | apply Drawn0.step)⟩
   ·rw [if_neg c5] at H
    exact absurd H (by simp)
  ·rw [if_neg c4] at H
   have c4b0 : decide (a1 < (a0.size : Int)) = false := decide_eq_false c4
   clear c4
   (first | rw [c4b0] | (simp only [i64_w, i32_w]; rw [c4b0]) | skip)
   have H' := Aside0.mk H
   clear H
   go_wp2
   go_meet
   case rel => exact ⟨_, (false), (by first | rfl | (simp; done) | (simp [*]; done)), H', ⟨by first | omega | exact Nat.le_refl _⟩, by repeat (first | exact Drawn0.refl _ | apply Drawn0.step)⟩
 case rest =>
  clear HC3
  try clear p2
  try clear c4
  try clear c4b0
  try clear c5
  try clear c5b0
  try clear p6
  try clear q6
  try clear hx6
  try clear p6
  try clear q6
  obtain ⟨kq, x16_2, rfl, HA, HJ2, ⟨mc2, rfl⟩⟩ := hcut
  cases kq with
  | zero => exact absurd HA.out (by simp [postbagref4_end.j0])
  | succ kj2 =>
   have H := HA.out
   clear HA
   simp only [postbagref4_end.j0] at H
   by_cases c7 : x16_2 = true
   ·subst c7
    have H1 : (some (0, wrap64 (a1 + 1))) = some (r1, r2) := by rw [if_pos rfl] at H; exact H
    clear H
    have H := H1
    clear H1
    simp only [Option.some.injEq, Prod.mk.injEq] at H
    obtain ⟨rfl, rfl⟩ := H
    go_wp2
    go_ret2
    exact ⟨by first | rfl | (simp; done) | (simp [*]; done), by repeat (first | exact Drawn0.refl _ | apply Drawn0.step)⟩
   ·replace c7 := Bool.eq_false_iff.mpr c7
    subst c7
    have H1 : (if a1 ≥ (a0.size : Int) then (postbagref4_end.j1 kj2 a0 a1 true) else (if 0 ≤ a1 then (if a1 < (a0.size : Int) then (if (bt a0 a1) < 49 then (postbagref4_end.j1 kj2 a0 a1 true) else (postbagref4_end.j1 kj2 a0 a1 (decide ((bt a0 a1) > 57)))) else (none)) else (none))) = some (r1, r2) := by rw [if_neg (show ¬ (false = true) by decide)] at H; exact H
    clear H
    have H := H1
    clear H1
    have HC8 := Aside0.mk H
    clear H
    go_upto_region 3 with (fail)
    go_cut [34] (fun v34 wc => ∃ (kq : Nat) (x34_7 : Bool), v34 = .bool x34_7 ∧ Aside0 (postbagref4_end.j1 kq a0 a1 x34_7 = some (r1, r2)) ∧ Aside0 (kq ≤ kj2) ∧ Drawn0 w wc)
    case first =>
     have H := HC8.out
     clear HC8
     by_cases c9 : a1 ≥ (a0.size : Int)
     ·rw [if_pos c9] at H
      have c9b0 : decide ((a0.size : Int) ≤ a1) = true := decide_eq_true c9
      clear c9
      (first | rw [c9b0] | (simp only [i64_w, i32_w]; rw [c9b0]) | skip)
      have H' := Aside0.mk H
      clear H
      go_wp2
      go_meet
      case rel => exact ⟨_, (true), (by first | rfl | (simp; done) | (simp [*]; done)), H', ⟨by have := HJ2.out; first | omega | exact Nat.le_refl _⟩, by repeat (first | exact Drawn0.refl _ | apply Drawn0.step)⟩
     ·rw [if_neg c9] at H
      have c9b0 : decide ((a0.size : Int) ≤ a1) = false := decide_eq_false c9
      clear c9
      (first | rw [c9b0] | (simp only [i64_w, i32_w]; rw [c9b0]) | skip)
      by_cases c10 : 0 ≤ a1
      ·rw [if_pos c10] at H
       have c10b0 : decide (0 ≤ a1) = true := decide_eq_true c10
       clear c10
       by_cases c11 : a1 < (a0.size : Int)
       ·rw [if_pos c11] at H
        have c11b0 : decide (a1 < (a0.size : Int)) = true := decide_eq_true c11
        clear c11
        by_cases c13 : (bt a0 a1) < 49
        ·rw [if_pos c13] at H
         have c13b0 : decide ((bt a0 a1) < 49) = true := decide_eq_true c13
         clear c13
         have H' := Aside0.mk H
         clear H
         have p12 : 0 ≤ (a1 : Int) := of_decide_eq_true (by first | (with_reducible assumption) | assumption)
         have q12 : a1 < (a0.size : Int) := of_decide_eq_true (by first | (with_reducible assumption) | assumption)
         have hx12 := bt_at a0 a1
         replace p12 := eq_true p12
         replace q12 := eq_true q12
         go_wp2
         go_meet
         case rel => exact ⟨_, (true), (by first | rfl | (simp; done) | (simp [*]; done)), H', ⟨by have := HJ2.out; first | omega | exact Nat.le_refl _⟩, by repeat (first | exact Drawn0.refl _ | apply Drawn0.step)⟩
        ·rw [if_neg c13] at H
         have c13b0 : decide ((bt a0 a1) < 49) = false := decide_eq_false c13
         clear c13
         have H' := Aside0.mk H
         clear H
         have p12 : 0 ≤ (a1 : Int) := of_decide_eq_true (by first | (with_reducible assumption) | assumption)
         have q12 : a1 < (a0.size : Int) := of_decide_eq_true (by first | (with_reducible assumption) | assumption)
         have hx12 := bt_at a0 a1
         replace p12 := eq_true p12
         replace q12 := eq_true q12
         have p14 : 0 ≤ (a1 : Int) := of_decide_eq_true (by first | (with_reducible assumption) | assumption)
         have q14 : a1 < (a0.size : Int) := of_decide_eq_true (by first | (with_reducible assumption) | assumption)
         have hx14 := bt_at a0 a1
         replace p14 := eq_true p14
         replace q14 := eq_true q14
         go_wp2
         go_meet
         case rel => exact ⟨_, (decide ((bt a0 a1) > 57)), (by first | rfl | (simp; done) | (simp [*]; done)), H', ⟨by have := HJ2.out; first | omega | exact Nat.le_refl _⟩, by repeat (first | exact Drawn0.refl _ | apply Drawn0.step)⟩
       ·rw [if_neg c11] at H
        exact absurd H (by simp)
      ·rw [if_neg c10] at H
       exact absurd H (by simp)
    case rest =>
     clear HC8
     try clear c1
     try clear p1
     try clear q1
     try clear hx1
     try clear c2
     try clear p2
     try clear c4
     try clear c4b0
     try clear c5
     try clear c5b0
     try clear p6
     try clear q6
     try clear hx6
     try clear c7
     try clear c9
     try clear c9b0
     try clear c10
     try clear c10b0
     try clear c11
     try clear c11b0
     try clear p12
     try clear q12
     try clear hx12
     try clear c13
     try clear c13b0
     try clear p14
     try clear q14
     try clear hx14
     try clear p12
     try clear p14
     try clear p2
     try clear p6
     try clear q12
     try clear q14
     try clear q6
     obtain ⟨kq, x34_7, rfl, HA, HJ7, ⟨mc7, rfl⟩⟩ := hcut
     cases kq with
     | zero => exact absurd HA.out (by simp [postbagref4_end.j1])
     | succ kj7 =>
      have H := HA.out
      clear HA
      simp only [postbagref4_end.j1] at H
      by_cases c15 : x34_7 = true
      ·subst c15
       have H1 : (some ((-1), a1)) = some (r1, r2) := by rw [if_pos rfl] at H; exact H
       clear H
       have H := H1
       clear H1
       simp only [Option.some.injEq, Prod.mk.injEq] at H
       obtain ⟨rfl, rfl⟩ := H
       go_wp2
       go_ret2
       exact ⟨by first | rfl | (simp; done) | (simp [*]; done), by repeat (first | exact Drawn0.refl _ | apply Drawn0.step)⟩
      ·replace c15 := Bool.eq_false_iff.mpr c15
       subst c15
       have H1 : (postbagref4_end.l0 kj7 a0 a1 0) = some (r1, r2) := by rw [if_neg (show ¬ (false = true) by decide)] at H; exact H
       clear H
       have H := H1
       clear H1
       have H' := Aside0.mk H
       clear H
       go_wp2
       go_loopg [1, 6] kj7 (fun kq v1 v6 w' => ∃ (x1_3 : Int) (x6_3 : Int), v1 = .int .i64 x1_3 ∧ v6 = .int .i64 x6_3 ∧ Aside0 (postbagref4_end.l0 kq a0 x1_3 x6_3 = some (r1, r2)) ∧ Aside0 (kq ≤ kj7) ∧ Drawn0 w w')
       case atStart => exact ⟨(a1), (0), (by first | rfl | (simp; done) | (simp [*]; done)), (by first | rfl | (simp; done) | (simp [*]; done)), H', ⟨Nat.le_refl _⟩, by repeat (first | exact Drawn0.refl _ | apply Drawn0.step)⟩
       case round =>
        clear H'
        try clear c1
        try clear p1
        try clear q1
        try clear hx1
        try clear c2
        try clear p2
        try clear c4
        try clear c4b0
        try clear c5
        try clear c5b0
        try clear p6
        try clear q6
        try clear hx6
        try clear c7
        try clear c9
        try clear c9b0
        try clear c10
        try clear c10b0
        try clear c11
        try clear c11b0
        try clear p12
        try clear q12
        try clear hx12
        try clear c13
        try clear c13b0
        try clear p14
        try clear q14
        try clear hx14
        try clear c15
        try clear p1
        try clear p12
        try clear p14
        try clear p2
        try clear p6
        try clear q1
        try clear q12
        try clear q14
        try clear q6
        obtain ⟨x1_3, x6_3, rfl, rfl, HA, HK3, ⟨m3, rfl⟩⟩ := hrel
        cases gk with
        | zero => exact absurd HA.out (by simp [postbagref4_end.l0])
        | succ k3 =>
         have H := HA.out
         clear HA
         simp only [postbagref4_end.l0] at H
         have HC16 := Aside0.mk H
         clear H
         go_upto_region 6 with (fail)
         go_cut [51] (fun v51 wc => ∃ (kq : Nat) (x51_15 : Bool), v51 = .bool x51_15 ∧ Aside0 (postbagref4_end.j3 kq a0 x1_3 x6_3 x51_15 = some (r1, r2)) ∧ Aside0 (kq ≤ k3) ∧ Drawn0 w wc)
         case first =>
          have H := HC16.out
          clear HC16
          by_cases c17 : x1_3 < (a0.size : Int)
          ·rw [if_pos c17] at H
           have c17b0 : decide (x1_3 < (a0.size : Int)) = true := decide_eq_true c17
           clear c17
           (first | rw [c17b0] | (simp only [i64_w, i32_w]; rw [c17b0]) | skip)
           by_cases c18 : 0 ≤ x1_3
           ·rw [if_pos c18] at H
            have c18b0 : decide (0 ≤ x1_3) = true := decide_eq_true c18
            clear c18
            by_cases c20 : (bt a0 x1_3) ≥ 48
            ·rw [if_pos c20] at H
             have c20b0 : decide (48 ≤ (bt a0 x1_3)) = true := decide_eq_true c20
             clear c20
             have H' := Aside0.mk H
             clear H
             have p19 : 0 ≤ (x1_3 : Int) := of_decide_eq_true (by first | (with_reducible assumption) | assumption)
             have q19 : x1_3 < (a0.size : Int) := of_decide_eq_true (by first | (with_reducible assumption) | assumption)
             have hx19 := bt_at a0 x1_3
             replace p19 := eq_true p19
             replace q19 := eq_true q19
             have p21 : 0 ≤ (x1_3 : Int) := of_decide_eq_true (by first | (with_reducible assumption) | assumption)
             have q21 : x1_3 < (a0.size : Int) := of_decide_eq_true (by first | (with_reducible assumption) | assumption)
             have hx21 := bt_at a0 x1_3
             replace p21 := eq_true p21
             replace q21 := eq_true q21
             go_wp2
             go_meet
             case rel => exact ⟨_, (decide ((bt a0 x1_3) ≤ 57)), (by first | rfl | (simp; done) | (simp [*]; done)), H', ⟨by have := HJ2.out; have := HJ7.out; have := HK3.out; first | omega | exact Nat.le_refl _⟩, by repeat (first | exact Drawn0.refl _ | apply Drawn0.step)⟩
            ·rw [if_neg c20] at H
             have c20b0 : decide (48 ≤ (bt a0 x1_3)) = false := decide_eq_false c20
             clear c20
             have H' := Aside0.mk H
             clear H
             have p19 : 0 ≤ (x1_3 : Int) := of_decide_eq_true (by first | (with_reducible assumption) | assumption)
             have q19 : x1_3 < (a0.size : Int) := of_decide_eq_true (by first | (with_reducible assumption) | assumption)
             have hx19 := bt_at a0 x1_3
             replace p19 := eq_true p19
             replace q19 := eq_true q19
             go_wp2
             go_meet
             case rel => exact ⟨_, (false), (by first | rfl | (simp; done) | (simp [*]; done)), H', ⟨by have := HJ2.out; have := HJ7.out; have := HK3.out; first | omega | exact Nat.le_refl _⟩, by repeat (first | exact Drawn0.refl _ | apply Drawn0.step)⟩
           ·rw [if_neg c18] at H
            exact absurd H (by simp)
          ·rw [if_neg c17] at H
           have c17b0 : decide (x1_3 < (a0.size : Int)) = false := decide_eq_false c17
           clear c17
           (first | rw [c17b0] | (simp only [i64_w, i32_w]; rw [c17b0]) | skip)
           have H' := Aside0.mk H
           clear H
           go_wp2
           go_meet
           case rel => exact ⟨_, (false), (by first | rfl | (simp; done) | (simp [*]; done)), H', ⟨by have := HJ2.out; have := HJ7.out; have := HK3.out; first | omega | exact Nat.le_refl _⟩, by repeat (first | exact Drawn0.refl _ | apply Drawn0.step)⟩
         case rest =>
          clear HC16
          try clear c1
          try clear p1
          try clear q1
          try clear hx1
          try clear c2
          try clear p2
          try clear q2
          try clear hx2
          try clear c4
          try clear c4b0
          try clear c5
          try clear c5b0
          try clear p6
          try clear q6
          try clear hx6
          try clear c7
          try clear c9
          try clear c9b0
          try clear c10
          try clear c10b0
          try clear c11
          try clear c11b0
          try clear p12
          try clear q12
          try clear hx12
          try clear c13
          try clear c13b0
          try clear p14
          try clear q14
          try clear hx14
          try clear c15
          try clear c17
          try clear c17b0
          try clear c18
          try clear c18b0
          try clear p19
          try clear q19
          try clear hx19
          try clear c20
          try clear c20b0
          try clear p21
          try clear q21
          try clear hx21
          try clear p1
          try clear p12
          try clear p14
          try clear p19
          try clear p2
          try clear p21
          try clear p6
          try clear q1
          try clear q12
          try clear q14
          try clear q19
          try clear q21
          try clear q6
          obtain ⟨kq, x51_15, rfl, HA, HJ15, ⟨mc15, rfl⟩⟩ := hcut
          cases kq with
          | zero => exact absurd HA.out (by simp [postbagref4_end.j3])
          | succ kj15 =>
           have H := HA.out
           clear HA
           simp only [postbagref4_end.j3] at H
           by_cases c22 : x51_15 = true
           ·subst c22
            have H1 : (if 0 ≤ x1_3 then (if x1_3 < (a0.size : Int) then (if (wrap64 ((wrap64 (10 * x6_3)) + (((bt a0 x1_3) - 48) % 256))) > 4294967295 then (some ((-1), x1_3)) else (postbagref4_end.l0 kj15 a0 (wrap64 (x1_3 + 1)) (wrap64 ((wrap64 (10 * x6_3)) + (((bt a0 x1_3) - 48) % 256))))) else (none)) else (none)) = some (r1, r2) := by rw [if_pos rfl] at H; exact H
            clear H
            have H := H1
            clear H1
            by_cases c23 : 0 ≤ x1_3
            ·rw [if_pos c23] at H
             have c23b0 : decide (0 ≤ x1_3) = true := decide_eq_true c23
             clear c23
             by_cases c24 : x1_3 < (a0.size : Int)
             ·rw [if_pos c24] at H
              have c24b0 : decide (x1_3 < (a0.size : Int)) = true := decide_eq_true c24
              clear c24
              by_cases c26 : (wrap64 ((wrap64 (10 * x6_3)) + (((bt a0 x1_3) - 48) % 256))) > 4294967295
              ·rw [if_pos c26] at H
               have c26b0 : decide (4294967295 < (wrap64 ((wrap64 (10 * x6_3)) + (((bt a0 x1_3) - 48) % 256)))) = true := decide_eq_true c26
               clear c26
               simp only [Option.some.injEq, Prod.mk.injEq] at H
               obtain ⟨rfl, rfl⟩ := H
               have p25 : 0 ≤ (x1_3 : Int) := of_decide_eq_true (by first | (with_reducible assumption) | assumption)
               have q25 : x1_3 < (a0.size : Int) := of_decide_eq_true (by first | (with_reducible assumption) | assumption)
               have hx25 := bt_at a0 x1_3
               replace p25 := eq_true p25
               replace q25 := eq_true q25
               go_wp2
               go_ret2
               exact ⟨by first | rfl | (simp; done) | (simp [*]; done), by repeat (first | exact Drawn0.refl _ | apply Drawn0.step)⟩
              ·rw [if_neg c26] at H
               have c26b0 : decide (4294967295 < (wrap64 ((wrap64 (10 * x6_3)) + (((bt a0 x1_3) - 48) % 256)))) = false := decide_eq_false c26
               clear c26
               have H' := Aside0.mk H
               clear H
               have p25 : 0 ≤ (x1_3 : Int) := of_decide_eq_true (by first | (with_reducible assumption) | assumption)
               have q25 : x1_3 < (a0.size : Int) := of_decide_eq_true (by first | (with_reducible assumption) | assumption)
               have hx25 := bt_at a0 x1_3
               replace p25 := eq_true p25
               replace q25 := eq_true q25
               go_wp2
               go_roundg kj15
               case measure => have := HJ2.out; have := HJ7.out; have := HK3.out; have := HJ15.out; omega
               case rel => exact ⟨(wrap64 (x1_3 + 1)), (wrap64 ((wrap64 (10 * x6_3)) + (((bt a0 x1_3) - 48) % 256))), (by first | rfl | (simp; done) | (simp [*]; done)), (by first | rfl | (simp; done) | (simp [*]; done)), H', ⟨by have := HJ2.out; have := HJ7.out; have := HK3.out; have := HJ15.out; omega⟩, by repeat (first | exact Drawn0.refl _ | apply Drawn0.step)⟩
             ·rw [if_neg c24] at H
              exact absurd H (by simp)
            ·rw [if_neg c23] at H
             exact absurd H (by simp)
           ·replace c22 := Bool.eq_false_iff.mpr c22
            subst c22
            have H1 : (some (x6_3, x1_3)) = some (r1, r2) := by rw [if_neg (show ¬ (false = true) by decide)] at H; exact H
            clear H
            have H := H1
            clear H1
            simp only [Option.some.injEq, Prod.mk.injEq] at H
            obtain ⟨rfl, rfl⟩ := H
            go_wp2
            go_ret2
            exact ⟨by first | rfl | (simp; done) | (simp [*]; done), by repeat (first | exact Drawn0.refl _ | apply Drawn0.step)⟩
end Go.Proofs.YtidcchopmbodkaaDoor.Sp
end
