import Derived.Test.YtjlchnmpebdggaaDoorRows
import Derived.Test.YtjlchnmpebdggaaDoorPrt1
import Derived.Test.YtjlchnmpebdggaaDoorPrt8
import Derived.Test.YtjlchnmpebdggaaDoorPrt9
import Derived.WalkKit
import Derived.ProofKit
import Derived.OpenShut
import Derived.ShutString
import Derived.ChangeOld
import Derived.Below
import Derived.SizedLaws
import Derived.Test.YtjlchnmpebdggaaDoorCards
import Derived.Test.YtjlchnmpebdggaaDoorTie
import Derived.LaidMore
import Derived.Stop.Joined
import Derived.SevenTiedAt
/- The row of MomentPrinted: for every input that the row lets in the law answers true and leaves its arguments as they were; out of its printed function and the pure statement on it. -/
namespace Go.Proofs.YtjlchnmpebdggaaDoor.momentPrinted
open Go.ChangeShapes Go.WideShapes Go.ChangeAt Go.RowKit Go.Proofs.YtjlchnmpebdggaaDoor.Mo Go.Proofs.YtjlchnmpebdggaaDoorW.PrintWords
open Go.ChangeMaps (open_string shut_string)
theorem own : ownKnob Tryd.prog.godebug = none := by kernel_rfl
theorem laidOut : laidOutB Tryd.prog = true := by kernel_rfl
theorem agg_of {v : Value} {l : List Value} (h : v.cells.toList = l) (hl : l.length ≠ 1) : v = .agg l.toArray := by
  cases v <;> first | (simp [Value.cells] at h; subst h; simp at hl; done) | (simp [Value.cells] at h; rw [← h])
set_option maxRecDepth 100000 in
theorem lifted (os : Os) (started : os.Started) (H : Type) (enc : TypeId × Value → H) :
    ReturnsInHanded {} Tryd.checked os 9 .any (fun w args => (Rows.momentPrintedSpec.pre enc Tryd.prog Tryd.f9 [] false w args ∧ laidMetH Tryd.prog [("postbag/moment.lengths", Rows.laid_postbag_moment_lengths)] w) ∧ sizedMet enc Tryd.prog Tryd.f9 (OpenSpec.ofChange Rows.momentPrintedSpec) false w args)
      (Rows.momentPrintedSpec.post enc Tryd.prog Tryd.f9 false true false false) := by
  refine returnsInHanded_of_change_and (C := Tryd.checked) (X := fun w _ => laidMetH Tryd.prog [("postbag/moment.lengths", Rows.laid_postbag_moment_lengths)] w) (fun _ _ _ hh h => h.of_heap hh) own started (by kernel_rfl) Tryd.func9
    (ChangeSpec.witness_shaped (enc := enc) (C := Tryd.checked) (os := os) (X := fun w _ => laidMetH Tryd.prog [("postbag/moment.lengths", Rows.laid_postbag_moment_lengths)] w) false (World.doorLaid Tryd.prog 400 os) #[.agg #[.int .i64 0, .int .i64 0, .int .i64 0, .int .i64 0, .int .i64 0, .int .i64 0, .int .i64 0]] 8 rfl (World.shaped_of_RefB (by kernel_rfl) (by kernel_rfl)) (by kernel_rfl) (by kernel_rfl) (by kernel_rfl) (door_met os _)) ?_
  intro W base args ds gs before hval0 hW hcnd hsz0 hLd _
  have hsz : (DataW.weightsEach Tryd.prog (Tryd.f9.params.toList ++ Rows.momentPrintedSpec.plain.varTypes Tryd.prog) (ds ++ gs)).all (· ≤ reachBytes) = true := hsz0
  have hval : ∀ (j : Nat) t v, Tryd.f9.params[j]? = some t → args[j]? = some v → Value.okWide Tryd.prog W .any base t v := hval0
  have hW' := hW
  obtain ⟨p, q, hA0, hV, rfl, hfz, hnd⟩ := hW
  have hA : DataW.TrodAll enc Tryd.prog W 0 (fun _ => true) true Tryd.f9.params.toList args.toList ds p := hA0
  rw [Tryd.params9] at hA hval hsz
  obtain ⟨v0, vs0, d0, ds0, p0, q0, hargs, rfl, rfl, h0, r0⟩ := trodAll_cons hA
  obtain ⟨rfl, rfl, rfl⟩ := trodAll_nil r0
  obtain rfl : args = #[v0] := by cases args; simp_all
  obtain ⟨rfl, rfl⟩ := trodVars_none hV
  have k0 := h0
  have lt0 : ∀ x ∈ p0, x.block < W.heap.size := by obtain ⟨m, hm⟩ := k0; exact DataW.trod_lt m _ _ _ hm
  obtain ⟨f0, hf0⟩ := h0
  obtain ⟨y0, hy0, hg0, hb0⟩ := (show Op.Opens Tryd.prog 23 k23 _ _ from (show Op.Opens Tryd.prog 23 k23 _ _ from Op.op_struct (fun x : S23 => (x.f0, x.f1, x.f2, x.f3, x.f4, x.f5, x.f6)) (fun y => (⟨y.1, y.2.1, y.2.2.1, y.2.2.2.1, y.2.2.2.2.1, y.2.2.2.2.2.1, y.2.2.2.2.2.2⟩ : S23)) (fun _ => rfl) Tryd.underlying23 (by kernel_rfl) (Op.op_more (by kernel_rfl) (by kernel_rfl) (Op.op_int Tryd.underlying3) (Op.op_more (by kernel_rfl) (by kernel_rfl) (Op.op_int Tryd.underlying3) (Op.op_more (by kernel_rfl) (by kernel_rfl) (Op.op_int Tryd.underlying3) (Op.op_more (by kernel_rfl) (by kernel_rfl) (Op.op_int Tryd.underlying3) (Op.op_more (by kernel_rfl) (by kernel_rfl) (Op.op_int Tryd.underlying3) (Op.op_more (by kernel_rfl) (by kernel_rfl) (Op.op_int Tryd.underlying3) (Op.op_last (by kernel_rfl) (by kernel_rfl) (Op.op_int Tryd.underlying3)))))))))) H enc W 0 _ _ f0 _ _ hf0 (fun n hn => of_decide_eq_true (List.all_eq_true.1 hsz n (Op.mem_each (j := 0) (t := 23) (d := d0) rfl rfl hn)))
  have hcs0 := k23_open hy0
  obtain rfl := agg_of hcs0 (by simp)
  clear hA0 hval0 hsz0 hsz
  obtain ⟨k, hk⟩ := Pure.MomentPrinted y0 hg0
  refine (postbaglaw2_MomentPrinted.calls k y0.f0 y0.f1 y0.f2 y0.f3 y0.f4 y0.f5 y0.f6 true W  hk (of_laid hLd)).mono fun e W' ⟨he, bel⟩ => ?_
  subst he
  exact ⟨_, rfl, _, _, _, [], _, [], hW', trodAll_mk1 (shut_bool Tryd.underlying4 _), (trodAll_cons_mk (Below.trod laidOut (by kernel_rfl) (of_decide_eq_true (by kernel_rfl)) k0 bel lt0) trodAll_mk0), rfl, bel.frame _, fun h => by cases h⟩
theorem over : Rows.momentPrintedRow.holds Tryd.pinned (OpenSpec.ofChange Rows.momentPrintedSpec) :=
  OpenClaim.holds_of_wide 9 Tryd.f9 rfl rfl rfl rfl rfl rfl rfl ⟨rfl, rfl, rfl, rfl, rfl⟩ rfl rfl rfl rfl rfl (by kernel_rfl) Tryd.func9 (by kernel_rfl)
    (of_decide_eq_true (by kernel_rfl)) (by unfold Func.isWrapper; first | (rw [if_pos (by decide +kernel)]; kernel_rfl) | (rw [if_neg (by decide +kernel)]; exact ⟨rfl, rfl⟩))
    (fun os started H enc _ => lifted os started H enc)
theorem proved : Rows.MomentPrintedSaid := over
#print axioms proved
theorem card : Rows.MomentPrintedCardSaid :=
  Claim7.holds_tied_plain_at .later [] [.data] true (true, "1af0d6b0c71ada5c949cf7c1759351fa77ac8f912e484e5567975fe39b370f43") false
    proved (fun _ h => by cases h) (by kernel_rfl) (fun _ h => by cases h) momentPrinted_row_tie rfl ⟨rfl, rfl⟩ (by kernel_rfl) rfl
    (fun f fn hf hfn => by
      obtain rfl : f = 9 := Option.some.inj ((show Tryd.prog.funcNamed "postbag/postbaglaw2.MomentPrinted" = some 9 by kernel_rfl).symm.trans hf) |>.symm
      obtain rfl : fn = Tryd.f9 := (Option.some.inj (Tryd.func9.symm.trans hfn)).symm
      exact ⟨by kernel_rfl, fun j t ht => by
        rw [Tryd.params9] at ht
        have hm : t ∈ [23] := by have := Array.mem_of_getElem? ht; (first | simpa using this | (simp at this ⊢; first | exact this.symm | (rcases this with h | h | h <;> first | exact Or.inl h | exact Or.inr h)))
        have hall : ([23].all fun u => !Tryd.prog.wantsStandIn u) = true := by kernel_rfl
        exact (show Tryd.prog.wantsStandIn t = false by simpa using List.all_eq_true.1 hall t hm)⟩)
    (by kernel_rfl)
#print axioms card
end Go.Proofs.YtjlchnmpebdggaaDoor.momentPrinted
namespace Go.Proofs.YtjlchnmpebdggaaDoor
/-- The tied card, under a short name, for the claim. -/
theorem momentPrinted_holds : Rows.MomentPrintedCardSaid := momentPrinted.card
end Go.Proofs.YtjlchnmpebdggaaDoor
