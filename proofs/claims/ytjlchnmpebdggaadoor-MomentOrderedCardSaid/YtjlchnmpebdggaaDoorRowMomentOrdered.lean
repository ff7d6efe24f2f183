import Derived.Test.YtjlchnmpebdggaaDoorRows
import Derived.Test.YtjlchnmpebdggaaDoorJs1
import Derived.Test.YtjlchnmpebdggaaDoorJs8
import Derived.WalkKit
import Derived.ProofKit
import Derived.OpenShut
import Derived.ShutString
import Derived.ChangeOld
import Derived.Below
import Derived.SizedLaws
import Derived.Test.YtjlchnmpebdggaaDoorCards
import Derived.Test.YtjlchnmpebdggaaDoorTie
import Derived.LaidMore
import Derived.Stop.Joined
import Derived.SevenTiedAt
/- The row of MomentOrdered: for every input that the row lets in the law answers true and leaves its arguments as they were; out of its printed function and the pure statement on it. -/
namespace Go.Proofs.YtjlchnmpebdggaaDoor.momentOrdered
open Go.ChangeShapes Go.WideShapes Go.ChangeAt Go.RowKit Go.Proofs.YtjlchnmpebdggaaDoor.Mo Go.Proofs.YtjlchnmpebdggaaDoorW.PrintWords
open Go.ChangeMaps (open_string shut_string)
theorem own : ownKnob Tryd.prog.godebug = none := by kernel_rfl
theorem laidOut : laidOutB Tryd.prog = true := by kernel_rfl
theorem agg_of {v : Value} {l : List Value} (h : v.cells.toList = l) (hl : l.length ≠ 1) : v = .agg l.toArray := by
  cases v <;> first | (simp [Value.cells] at h; subst h; simp at hl; done) | (simp [Value.cells] at h; rw [← h])
set_option maxRecDepth 100000 in
theorem lifted (os : Os) (started : os.Started) (H : Type) (enc : TypeId × Value → H) :
    ReturnsInHanded {} Tryd.checked os 14 .any (fun w args => (Rows.momentOrderedSpec.pre enc Tryd.prog Tryd.f14 [] false w args ∧ laidMetH Tryd.prog [("postbag/moment.lengths", Rows.laid_postbag_moment_lengths)] w) ∧ sizedMet enc Tryd.prog Tryd.f14 (OpenSpec.ofChange Rows.momentOrderedSpec) false w args)
      (Rows.momentOrderedSpec.post enc Tryd.prog Tryd.f14 false true false false) := by
  refine returnsInHanded_of_change_and (C := Tryd.checked) (X := fun w _ => laidMetH Tryd.prog [("postbag/moment.lengths", Rows.laid_postbag_moment_lengths)] w) (fun _ _ _ hh h => h.of_heap hh) own started (by kernel_rfl) Tryd.func14
    (ChangeSpec.witness_shaped (enc := enc) (C := Tryd.checked) (os := os) (X := fun w _ => laidMetH Tryd.prog [("postbag/moment.lengths", Rows.laid_postbag_moment_lengths)] w) false (World.doorLaid Tryd.prog 400 os) #[.agg #[.int .i64 0, .int .i64 0, .int .i64 0, .int .i64 0, .int .i64 0, .int .i64 0, .int .i64 0], .agg #[.int .i64 0, .int .i64 0, .int .i64 0, .int .i64 0, .int .i64 0, .int .i64 0, .int .i64 0], .agg #[.int .i64 0, .int .i64 0, .int .i64 0, .int .i64 0, .int .i64 0, .int .i64 0, .int .i64 0], .int .i64 0, .int .i64 0, .int .i64 0] 8 rfl (World.shaped_of_RefB (by kernel_rfl) (by kernel_rfl)) (by kernel_rfl) (by kernel_rfl) (by kernel_rfl) (door_met os _)) ?_
  intro W base args ds gs before hval0 hW hcnd hsz0 hLd _
  have hsz : (DataW.weightsEach Tryd.prog (Tryd.f14.params.toList ++ Rows.momentOrderedSpec.plain.varTypes Tryd.prog) (ds ++ gs)).all (· ≤ reachBytes) = true := hsz0
  have hval : ∀ (j : Nat) t v, Tryd.f14.params[j]? = some t → args[j]? = some v → Value.okWide Tryd.prog W .any base t v := hval0
  have hW' := hW
  obtain ⟨p, q, hA0, hV, rfl, hfz, hnd⟩ := hW
  have hA : DataW.TrodAll enc Tryd.prog W 0 (fun _ => true) true Tryd.f14.params.toList args.toList ds p := hA0
  rw [Tryd.params14] at hA hval hsz
  obtain ⟨v0, vs0, d0, ds0, p0, q0, hargs, rfl, rfl, h0, r0⟩ := trodAll_cons hA
  obtain ⟨v1, vs1, d1, ds1, p1, q1, rfl, rfl, rfl, h1, r1⟩ := trodAll_cons r0
  obtain ⟨v2, vs2, d2, ds2, p2, q2, rfl, rfl, rfl, h2, r2⟩ := trodAll_cons r1
  obtain ⟨v3, vs3, d3, ds3, p3, q3, rfl, rfl, rfl, h3, r3⟩ := trodAll_cons r2
  obtain ⟨v4, vs4, d4, ds4, p4, q4, rfl, rfl, rfl, h4, r4⟩ := trodAll_cons r3
  obtain ⟨v5, vs5, d5, ds5, p5, q5, rfl, rfl, rfl, h5, r5⟩ := trodAll_cons r4
  obtain ⟨rfl, rfl, rfl⟩ := trodAll_nil r5
  obtain rfl : args = #[v0, v1, v2, v3, v4, v5] := by cases args; simp_all
  obtain ⟨rfl, rfl⟩ := trodVars_none hV
  have k0 := h0
  have lt0 : ∀ x ∈ p0, x.block < W.heap.size := by obtain ⟨m, hm⟩ := k0; exact DataW.trod_lt m _ _ _ hm
  obtain ⟨f0, hf0⟩ := h0
  obtain ⟨y0, hy0, hg0, hb0⟩ := (show Op.Opens Tryd.prog 23 k23 _ _ from (show Op.Opens Tryd.prog 23 k23 _ _ from Op.op_struct (fun x : S23 => (x.f0, x.f1, x.f2, x.f3, x.f4, x.f5, x.f6)) (fun y => (⟨y.1, y.2.1, y.2.2.1, y.2.2.2.1, y.2.2.2.2.1, y.2.2.2.2.2.1, y.2.2.2.2.2.2⟩ : S23)) (fun _ => rfl) Tryd.underlying23 (by kernel_rfl) (Op.op_more (by kernel_rfl) (by kernel_rfl) (Op.op_int Tryd.underlying3) (Op.op_more (by kernel_rfl) (by kernel_rfl) (Op.op_int Tryd.underlying3) (Op.op_more (by kernel_rfl) (by kernel_rfl) (Op.op_int Tryd.underlying3) (Op.op_more (by kernel_rfl) (by kernel_rfl) (Op.op_int Tryd.underlying3) (Op.op_more (by kernel_rfl) (by kernel_rfl) (Op.op_int Tryd.underlying3) (Op.op_more (by kernel_rfl) (by kernel_rfl) (Op.op_int Tryd.underlying3) (Op.op_last (by kernel_rfl) (by kernel_rfl) (Op.op_int Tryd.underlying3)))))))))) H enc W 0 _ _ f0 _ _ hf0 (fun n hn => of_decide_eq_true (List.all_eq_true.1 hsz n (Op.mem_each (j := 0) (t := 23) (d := d0) rfl rfl hn)))
  have hcs0 := k23_open hy0
  obtain rfl := agg_of hcs0 (by simp)
  have k1 := h1
  have lt1 : ∀ x ∈ p1, x.block < W.heap.size := by obtain ⟨m, hm⟩ := k1; exact DataW.trod_lt m _ _ _ hm
  obtain ⟨f1, hf1⟩ := h1
  obtain ⟨y1, hy1, hg1, hb1⟩ := (show Op.Opens Tryd.prog 23 k23 _ _ from (show Op.Opens Tryd.prog 23 k23 _ _ from Op.op_struct (fun x : S23 => (x.f0, x.f1, x.f2, x.f3, x.f4, x.f5, x.f6)) (fun y => (⟨y.1, y.2.1, y.2.2.1, y.2.2.2.1, y.2.2.2.2.1, y.2.2.2.2.2.1, y.2.2.2.2.2.2⟩ : S23)) (fun _ => rfl) Tryd.underlying23 (by kernel_rfl) (Op.op_more (by kernel_rfl) (by kernel_rfl) (Op.op_int Tryd.underlying3) (Op.op_more (by kernel_rfl) (by kernel_rfl) (Op.op_int Tryd.underlying3) (Op.op_more (by kernel_rfl) (by kernel_rfl) (Op.op_int Tryd.underlying3) (Op.op_more (by kernel_rfl) (by kernel_rfl) (Op.op_int Tryd.underlying3) (Op.op_more (by kernel_rfl) (by kernel_rfl) (Op.op_int Tryd.underlying3) (Op.op_more (by kernel_rfl) (by kernel_rfl) (Op.op_int Tryd.underlying3) (Op.op_last (by kernel_rfl) (by kernel_rfl) (Op.op_int Tryd.underlying3)))))))))) H enc W 0 _ _ f1 _ _ hf1 (fun n hn => of_decide_eq_true (List.all_eq_true.1 hsz n (Op.mem_each (j := 1) (t := 23) (d := d1) rfl rfl hn)))
  have hcs1 := k23_open hy1
  obtain rfl := agg_of hcs1 (by simp)
  have k2 := h2
  have lt2 : ∀ x ∈ p2, x.block < W.heap.size := by obtain ⟨m, hm⟩ := k2; exact DataW.trod_lt m _ _ _ hm
  obtain ⟨f2, hf2⟩ := h2
  obtain ⟨y2, hy2, hg2, hb2⟩ := (show Op.Opens Tryd.prog 23 k23 _ _ from (show Op.Opens Tryd.prog 23 k23 _ _ from Op.op_struct (fun x : S23 => (x.f0, x.f1, x.f2, x.f3, x.f4, x.f5, x.f6)) (fun y => (⟨y.1, y.2.1, y.2.2.1, y.2.2.2.1, y.2.2.2.2.1, y.2.2.2.2.2.1, y.2.2.2.2.2.2⟩ : S23)) (fun _ => rfl) Tryd.underlying23 (by kernel_rfl) (Op.op_more (by kernel_rfl) (by kernel_rfl) (Op.op_int Tryd.underlying3) (Op.op_more (by kernel_rfl) (by kernel_rfl) (Op.op_int Tryd.underlying3) (Op.op_more (by kernel_rfl) (by kernel_rfl) (Op.op_int Tryd.underlying3) (Op.op_more (by kernel_rfl) (by kernel_rfl) (Op.op_int Tryd.underlying3) (Op.op_more (by kernel_rfl) (by kernel_rfl) (Op.op_int Tryd.underlying3) (Op.op_more (by kernel_rfl) (by kernel_rfl) (Op.op_int Tryd.underlying3) (Op.op_last (by kernel_rfl) (by kernel_rfl) (Op.op_int Tryd.underlying3)))))))))) H enc W 0 _ _ f2 _ _ hf2 (fun n hn => of_decide_eq_true (List.all_eq_true.1 hsz n (Op.mem_each (j := 2) (t := 23) (d := d2) rfl rfl hn)))
  have hcs2 := k23_open hy2
  obtain rfl := agg_of hcs2 (by simp)
  have k3 := h3
  have lt3 : ∀ x ∈ p3, x.block < W.heap.size := by obtain ⟨m, hm⟩ := k3; exact DataW.trod_lt m _ _ _ hm
  obtain ⟨f3, hf3⟩ := h3
  obtain ⟨y3, hy3, hg3, hb3⟩ := (show Op.Opens Tryd.prog 3 (Kd.int .i64) _ _ from (Op.op_int Tryd.underlying3)) H enc W 0 _ _ f3 _ _ hf3 (fun n hn => of_decide_eq_true (List.all_eq_true.1 hsz n (Op.mem_each (j := 3) (t := 3) (d := d3) rfl rfl hn)))
  obtain ⟨a3, rfl, _, _, _⟩ := open_int Tryd.underlying3 (hval 3 3 v3 rfl rfl) k3
  obtain rfl : a3 = y3 := by have h_ : [Value.int _ a3] = [Value.int _ y3] := hy3; simpa using h_
  have k4 := h4
  have lt4 : ∀ x ∈ p4, x.block < W.heap.size := by obtain ⟨m, hm⟩ := k4; exact DataW.trod_lt m _ _ _ hm
  obtain ⟨f4, hf4⟩ := h4
  obtain ⟨y4, hy4, hg4, hb4⟩ := (show Op.Opens Tryd.prog 3 (Kd.int .i64) _ _ from (Op.op_int Tryd.underlying3)) H enc W 0 _ _ f4 _ _ hf4 (fun n hn => of_decide_eq_true (List.all_eq_true.1 hsz n (Op.mem_each (j := 4) (t := 3) (d := d4) rfl rfl hn)))
  obtain ⟨a4, rfl, _, _, _⟩ := open_int Tryd.underlying3 (hval 4 3 v4 rfl rfl) k4
  obtain rfl : a4 = y4 := by have h_ : [Value.int _ a4] = [Value.int _ y4] := hy4; simpa using h_
  have k5 := h5
  have lt5 : ∀ x ∈ p5, x.block < W.heap.size := by obtain ⟨m, hm⟩ := k5; exact DataW.trod_lt m _ _ _ hm
  obtain ⟨f5, hf5⟩ := h5
  obtain ⟨y5, hy5, hg5, hb5⟩ := (show Op.Opens Tryd.prog 3 (Kd.int .i64) _ _ from (Op.op_int Tryd.underlying3)) H enc W 0 _ _ f5 _ _ hf5 (fun n hn => of_decide_eq_true (List.all_eq_true.1 hsz n (Op.mem_each (j := 5) (t := 3) (d := d5) rfl rfl hn)))
  obtain ⟨a5, rfl, _, _, _⟩ := open_int Tryd.underlying3 (hval 5 3 v5 rfl rfl) k5
  obtain rfl : a5 = y5 := by have h_ : [Value.int _ a5] = [Value.int _ y5] := hy5; simpa using h_
  clear hA0 hval0 hsz0 hsz
  have hk := Pure.MomentOrdered y0 y1 y2 a3 a4 a5 hg0 hg1 hg2 hg3 hg4 hg5
  refine (postbaglaw2_MomentOrdered.calls y0.f0 y0.f1 y0.f2 y0.f3 y0.f4 y0.f5 y0.f6 y1.f0 y1.f1 y1.f2 y1.f3 y1.f4 y1.f5 y1.f6 y2.f0 y2.f1 y2.f2 y2.f3 y2.f4 y2.f5 y2.f6 _ _ _ true W  hk (of_laid hLd)).mono fun e W' ⟨he, bel⟩ => ?_
  subst he
  exact ⟨_, rfl, _, _, _, [], _, [], hW', trodAll_mk1 (shut_bool Tryd.underlying4 _), (trodAll_cons_mk (Below.trod laidOut (by kernel_rfl) (of_decide_eq_true (by kernel_rfl)) k0 bel lt0) (trodAll_cons_mk (Below.trod laidOut (by kernel_rfl) (of_decide_eq_true (by kernel_rfl)) k1 bel lt1) (trodAll_cons_mk (Below.trod laidOut (by kernel_rfl) (of_decide_eq_true (by kernel_rfl)) k2 bel lt2) (trodAll_cons_mk (Below.trod laidOut (by kernel_rfl) (of_decide_eq_true (by kernel_rfl)) k3 bel lt3) (trodAll_cons_mk (Below.trod laidOut (by kernel_rfl) (of_decide_eq_true (by kernel_rfl)) k4 bel lt4) (trodAll_cons_mk (Below.trod laidOut (by kernel_rfl) (of_decide_eq_true (by kernel_rfl)) k5 bel lt5) trodAll_mk0)))))), rfl, bel.frame _, fun h => by cases h⟩
theorem over : Rows.momentOrderedRow.holds Tryd.pinned (OpenSpec.ofChange Rows.momentOrderedSpec) :=
  OpenClaim.holds_of_wide 14 Tryd.f14 rfl rfl rfl rfl rfl rfl rfl ⟨rfl, rfl, rfl, rfl, rfl⟩ rfl rfl rfl rfl rfl (by kernel_rfl) Tryd.func14 (by kernel_rfl)
    (of_decide_eq_true (by kernel_rfl)) (by unfold Func.isWrapper; first | (rw [if_pos (by decide +kernel)]; kernel_rfl) | (rw [if_neg (by decide +kernel)]; exact ⟨rfl, rfl⟩))
    (fun os started H enc _ => lifted os started H enc)
theorem proved : Rows.MomentOrderedSaid := over
#print axioms proved
theorem card : Rows.MomentOrderedCardSaid :=
  Claim7.holds_tied_plain_at .later [] [.data] true (true, "1af0d6b0c71ada5c949cf7c1759351fa77ac8f912e484e5567975fe39b370f43") false
    proved (fun _ h => by cases h) (by kernel_rfl) (fun _ h => by cases h) momentOrdered_row_tie rfl ⟨rfl, rfl⟩ (by kernel_rfl) rfl
    (fun f fn hf hfn => by
      obtain rfl : f = 14 := Option.some.inj ((show Tryd.prog.funcNamed "postbag/postbaglaw2.MomentOrdered" = some 14 by kernel_rfl).symm.trans hf) |>.symm
      obtain rfl : fn = Tryd.f14 := (Option.some.inj (Tryd.func14.symm.trans hfn)).symm
      exact ⟨by kernel_rfl, fun j t ht => by
        rw [Tryd.params14] at ht
        have hm : t ∈ [3, 23] := by have := Array.mem_of_getElem? ht; simp at this ⊢; exact this.symm
        have hall : ([3, 23].all fun u => !Tryd.prog.wantsStandIn u) = true := by kernel_rfl
        exact (show Tryd.prog.wantsStandIn t = false by simpa using List.all_eq_true.1 hall t hm)⟩)
    (by kernel_rfl)
#print axioms card
end Go.Proofs.YtjlchnmpebdggaaDoor.momentOrdered
namespace Go.Proofs.YtjlchnmpebdggaaDoor
/-- The tied card, under a short name, for the claim. -/
theorem momentOrdered_holds : Rows.MomentOrderedCardSaid := momentOrdered.card
end Go.Proofs.YtjlchnmpebdggaaDoor
