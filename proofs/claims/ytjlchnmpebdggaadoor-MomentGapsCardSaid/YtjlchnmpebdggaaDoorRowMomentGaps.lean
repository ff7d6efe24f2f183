import Derived.Test.YtjlchnmpebdggaaDoorRows
import Derived.Test.YtjlchnmpebdggaaDoorGap1
import Derived.Test.YtjlchnmpebdggaaDoorGap6
import Derived.WalkKit
import Derived.ProofKit
import Derived.OpenShut
import Derived.ShutString
import Derived.ChangeOld
import Derived.Below
import Derived.SizedLaws
import Derived.Test.YtjlchnmpebdggaaDoorCards
import Derived.Test.YtjlchnmpebdggaaDoorTie
import Derived.LaidMore
import Derived.Stop.Joined
import Derived.SevenTiedAt
/- The row of MomentGaps: for every input that the row lets in the law answers true and leaves its arguments as they were; out of its printed function and the pure statement on it. -/
namespace Go.Proofs.YtjlchnmpebdggaaDoor.momentGaps
open Go.ChangeShapes Go.WideShapes Go.ChangeAt Go.RowKit Go.Proofs.YtjlchnmpebdggaaDoor.Mo Go.Proofs.YtjlchnmpebdggaaDoorW.PrintWords
open Go.ChangeMaps (open_string shut_string)
theorem own : ownKnob Tryd.prog.godebug = none := by kernel_rfl
theorem laidOut : laidOutB Tryd.prog = true := by kernel_rfl
theorem agg_of {v : Value} {l : List Value} (h : v.cells.toList = l) (hl : l.length ≠ 1) : v = .agg l.toArray := by
  cases v <;> first | (simp [Value.cells] at h; subst h; simp at hl; done) | (simp [Value.cells] at h; rw [← h])
theorem slice_of {A : Option Addr} {n c : Nat} {a : Option Addr} {m d : Nat} (h : (Value.slice a m d).cells.toList = [Value.slice A n c]) : a = A ∧ m = n ∧ d = c := by
  simpa [Value.cells] using h
set_option maxRecDepth 100000 in
theorem lifted (os : Os) (started : os.Started) (H : Type) (enc : TypeId × Value → H) :
    ReturnsInHanded {} Tryd.checked os 7 .any (fun w args => (Rows.momentGapsSpec.pre enc Tryd.prog Tryd.f7 [] false w args ∧ laidMetH Tryd.prog [("postbag/moment.lengths", Rows.laid_postbag_moment_lengths)] w) ∧ sizedMet enc Tryd.prog Tryd.f7 (OpenSpec.ofChange Rows.momentGapsSpec) false w args)
      (Rows.momentGapsSpec.post enc Tryd.prog Tryd.f7 false true false false) := by
  refine returnsInHanded_of_change_and (C := Tryd.checked) (X := fun w _ => laidMetH Tryd.prog [("postbag/moment.lengths", Rows.laid_postbag_moment_lengths)] w) (fun _ _ _ hh h => h.of_heap hh) own started (by kernel_rfl) Tryd.func7
    (ChangeSpec.witness_shaped (enc := enc) (C := Tryd.checked) (os := os) (X := fun w _ => laidMetH Tryd.prog [("postbag/moment.lengths", Rows.laid_postbag_moment_lengths)] w) false (World.doorLaid Tryd.prog 400 os) #[.agg #[.int .i64 0, .int .i64 0, .int .i64 0, .int .i64 0, .int .i64 0, .int .i64 0, .int .i64 0], .slice none 0 0, .bool false, .bool false] 8 rfl (World.shaped_of_RefB (by kernel_rfl) (by kernel_rfl)) (by kernel_rfl) (by kernel_rfl) (by kernel_rfl) (door_met os _)) ?_
  intro W base args ds gs before hval0 hW hcnd hsz0 hLd _
  have hsz : (DataW.weightsEach Tryd.prog (Tryd.f7.params.toList ++ Rows.momentGapsSpec.plain.varTypes Tryd.prog) (ds ++ gs)).all (· ≤ reachBytes) = true := hsz0
  have hval : ∀ (j : Nat) t v, Tryd.f7.params[j]? = some t → args[j]? = some v → Value.okWide Tryd.prog W .any base t v := hval0
  have hW' := hW
  obtain ⟨p, q, hA0, hV, rfl, hfz, hnd⟩ := hW
  have hA : DataW.TrodAll enc Tryd.prog W 0 (fun _ => true) true Tryd.f7.params.toList args.toList ds p := hA0
  rw [Tryd.params7] at hA hval hsz
  obtain ⟨v0, vs0, d0, ds0, p0, q0, hargs, rfl, rfl, h0, r0⟩ := trodAll_cons hA
  obtain ⟨v1, vs1, d1, ds1, p1, q1, rfl, rfl, rfl, h1, r1⟩ := trodAll_cons r0
  obtain ⟨v2, vs2, d2, ds2, p2, q2, rfl, rfl, rfl, h2, r2⟩ := trodAll_cons r1
  obtain ⟨v3, vs3, d3, ds3, p3, q3, rfl, rfl, rfl, h3, r3⟩ := trodAll_cons r2
  obtain ⟨rfl, rfl, rfl⟩ := trodAll_nil r3
  obtain rfl : args = #[v0, v1, v2, v3] := by cases args; simp_all
  obtain ⟨rfl, rfl⟩ := trodVars_none hV
  have k0 := h0
  have lt0 : ∀ x ∈ p0, x.block < W.heap.size := by obtain ⟨m, hm⟩ := k0; exact DataW.trod_lt m _ _ _ hm
  obtain ⟨f0, hf0⟩ := h0
  obtain ⟨y0, hy0, hg0, hb0⟩ := (show Op.Opens Tryd.prog 23 k23 _ _ from (show Op.Opens Tryd.prog 23 k23 _ _ from Op.op_struct (fun x : S23 => (x.f0, x.f1, x.f2, x.f3, x.f4, x.f5, x.f6)) (fun y => (⟨y.1, y.2.1, y.2.2.1, y.2.2.2.1, y.2.2.2.2.1, y.2.2.2.2.2.1, y.2.2.2.2.2.2⟩ : S23)) (fun _ => rfl) Tryd.underlying23 (by kernel_rfl) (Op.op_more (by kernel_rfl) (by kernel_rfl) (Op.op_int Tryd.underlying3) (Op.op_more (by kernel_rfl) (by kernel_rfl) (Op.op_int Tryd.underlying3) (Op.op_more (by kernel_rfl) (by kernel_rfl) (Op.op_int Tryd.underlying3) (Op.op_more (by kernel_rfl) (by kernel_rfl) (Op.op_int Tryd.underlying3) (Op.op_more (by kernel_rfl) (by kernel_rfl) (Op.op_int Tryd.underlying3) (Op.op_more (by kernel_rfl) (by kernel_rfl) (Op.op_int Tryd.underlying3) (Op.op_last (by kernel_rfl) (by kernel_rfl) (Op.op_int Tryd.underlying3)))))))))) H enc W 0 _ _ f0 _ _ hf0 (fun n hn => of_decide_eq_true (List.all_eq_true.1 hsz n (Op.mem_each (j := 0) (t := 23) (d := d0) rfl rfl hn)))
  have hcs0 := k23_open hy0
  obtain rfl := agg_of hcs0 (by simp)
  have k1 := h1
  have lt1 : ∀ x ∈ p1, x.block < W.heap.size := by obtain ⟨m, hm⟩ := k1; exact DataW.trod_lt m _ _ _ hm
  obtain ⟨f1, hf1⟩ := h1
  obtain ⟨y1, hy1, hg1, hb1⟩ := (show Op.Opens Tryd.prog 32 (Kd.slice 9 Kd.string) _ _ from (Op.op_slice Tryd.underlying32 (by kernel_rfl) (Op.op_string Tryd.underlying9))) H enc W 0 _ _ f1 _ _ hf1 (fun n hn => of_decide_eq_true (List.all_eq_true.1 hsz n (Op.mem_each (j := 1) (t := 32) (d := d1) rfl rfl hn)))
  obtain ⟨a1, len1, cap1, rfl⟩ := okWide_slice Tryd.underlying32 (hval 1 32 v1 rfl rfl)
  obtain ⟨A1, c1, hcs1, hle1, hC1⟩ := hy1
  obtain ⟨rfl, rfl, rfl⟩ := slice_of hcs1
  have k2 := h2
  have lt2 : ∀ x ∈ p2, x.block < W.heap.size := by obtain ⟨m, hm⟩ := k2; exact DataW.trod_lt m _ _ _ hm
  obtain ⟨f2, hf2⟩ := h2
  obtain ⟨y2, hy2, hg2, hb2⟩ := (show Op.Opens Tryd.prog 4 Kd.bool _ _ from (Op.op_bool Tryd.underlying4)) H enc W 0 _ _ f2 _ _ hf2 (fun n hn => of_decide_eq_true (List.all_eq_true.1 hsz n (Op.mem_each (j := 2) (t := 4) (d := d2) rfl rfl hn)))
  obtain ⟨a2, rfl, _, _⟩ := open_bool Tryd.underlying4 (hval 2 4 v2 rfl rfl) k2
  obtain rfl : a2 = y2 := by have h_ : [Value.bool a2] = [Value.bool y2] := hy2; simpa using h_
  have k3 := h3
  have lt3 : ∀ x ∈ p3, x.block < W.heap.size := by obtain ⟨m, hm⟩ := k3; exact DataW.trod_lt m _ _ _ hm
  obtain ⟨f3, hf3⟩ := h3
  obtain ⟨y3, hy3, hg3, hb3⟩ := (show Op.Opens Tryd.prog 4 Kd.bool _ _ from (Op.op_bool Tryd.underlying4)) H enc W 0 _ _ f3 _ _ hf3 (fun n hn => of_decide_eq_true (List.all_eq_true.1 hsz n (Op.mem_each (j := 3) (t := 4) (d := d3) rfl rfl hn)))
  obtain ⟨a3, rfl, _, _⟩ := open_bool Tryd.underlying4 (hval 3 4 v3 rfl rfl) k3
  obtain rfl : a3 = y3 := by have h_ : [Value.bool a3] = [Value.bool y3] := hy3; simpa using h_
  clear hA0 hval0 hsz0 hsz
  have hk := Pure.MomentGaps y0 y1 a2 a3 hg0 hg1 hg2 hg3
  refine (postbaglaw2_MomentGaps.calls y0.f0 y0.f1 y0.f2 y0.f3 y0.f4 y0.f5 y0.f6 _ _ y1 _ _ true W hC1 hle1 hk (of_laid hLd)).mono fun e W' ⟨he, bel⟩ => ?_
  subst he
  exact ⟨_, rfl, _, _, _, [], _, [], hW', trodAll_mk1 (shut_bool Tryd.underlying4 _), (trodAll_cons_mk (Below.trod laidOut (by kernel_rfl) (of_decide_eq_true (by kernel_rfl)) k0 bel lt0) (trodAll_cons_mk (Below.trod laidOut (by kernel_rfl) (of_decide_eq_true (by kernel_rfl)) k1 bel lt1) (trodAll_cons_mk (Below.trod laidOut (by kernel_rfl) (of_decide_eq_true (by kernel_rfl)) k2 bel lt2) (trodAll_cons_mk (Below.trod laidOut (by kernel_rfl) (of_decide_eq_true (by kernel_rfl)) k3 bel lt3) trodAll_mk0)))), rfl, bel.frame _, fun h => by cases h⟩
theorem over : Rows.momentGapsRow.holds Tryd.pinned (OpenSpec.ofChange Rows.momentGapsSpec) :=
  OpenClaim.holds_of_wide 7 Tryd.f7 rfl rfl rfl rfl rfl rfl rfl ⟨rfl, rfl, rfl, rfl, rfl⟩ rfl rfl rfl rfl rfl (by kernel_rfl) Tryd.func7 (by kernel_rfl)
    (of_decide_eq_true (by kernel_rfl)) (by unfold Func.isWrapper; first | (rw [if_pos (by decide +kernel)]; kernel_rfl) | (rw [if_neg (by decide +kernel)]; exact ⟨rfl, rfl⟩))
    (fun os started H enc _ => lifted os started H enc)
theorem proved : Rows.MomentGapsSaid := over
#print axioms proved
theorem card : Rows.MomentGapsCardSaid :=
  Claim7.holds_tied_plain_at .later [] [.data] true (true, "1af0d6b0c71ada5c949cf7c1759351fa77ac8f912e484e5567975fe39b370f43") false
    proved (fun _ h => by cases h) (by kernel_rfl) (fun _ h => by cases h) momentGaps_row_tie rfl ⟨rfl, rfl⟩ (by kernel_rfl) rfl
    (fun f fn hf hfn => by
      obtain rfl : f = 7 := Option.some.inj ((show Tryd.prog.funcNamed "postbag/postbaglaw2.MomentGaps" = some 7 by kernel_rfl).symm.trans hf) |>.symm
      obtain rfl : fn = Tryd.f7 := (Option.some.inj (Tryd.func7.symm.trans hfn)).symm
      exact ⟨by kernel_rfl, fun j t ht => by
        rw [Tryd.params7] at ht
        have hm : t ∈ [4, 23, 32] := by have := Array.mem_of_getElem? ht; (first | simpa using this | (simp at this ⊢; first | exact this.symm | (rcases this with h | h | h <;> first | exact Or.inl h | exact Or.inr h | simp [h])))
        have hall : ([4, 23, 32].all fun u => !Tryd.prog.wantsStandIn u) = true := by kernel_rfl
        exact (show Tryd.prog.wantsStandIn t = false by simpa using List.all_eq_true.1 hall t hm)⟩)
    (by kernel_rfl)
#print axioms card
end Go.Proofs.YtjlchnmpebdggaaDoor.momentGaps
namespace Go.Proofs.YtjlchnmpebdggaaDoor
/-- The tied card, under a short name, for the claim. -/
theorem momentGaps_holds : Rows.MomentGapsCardSaid := momentGaps.card
end Go.Proofs.YtjlchnmpebdggaaDoor
