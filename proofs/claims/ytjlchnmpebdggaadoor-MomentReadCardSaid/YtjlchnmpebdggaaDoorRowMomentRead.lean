import Derived.Test.YtjlchnmpebdggaaDoorRows
import Derived.Test.YtjlchnmpebdggaaDoorRds1
import Derived.Test.YtjlchnmpebdggaaDoorRds8
import Derived.WalkKit
import Derived.ProofKit
import Derived.OpenShut
import Derived.ShutString
import Derived.ChangeOld
import Derived.Below
import Derived.SizedLaws
import Derived.Test.YtjlchnmpebdggaaDoorCards
import Derived.Test.YtjlchnmpebdggaaDoorTie
import Derived.LaidMore
import Derived.Stop.Joined
import Derived.SevenTiedAt
/- The row of MomentRead: for every input that the row lets in the law answers true and leaves its arguments as they were; out of its printed function and the pure statement on it. -/
namespace Go.Proofs.YtjlchnmpebdggaaDoor.momentRead
open Go.ChangeShapes Go.WideShapes Go.ChangeAt Go.RowKit Go.Proofs.YtjlchnmpebdggaaDoor.Mo Go.Proofs.YtjlchnmpebdggaaDoorW.PrintWords
open Go.ChangeMaps (open_string shut_string)
theorem own : ownKnob Tryd.prog.godebug = none := by kernel_rfl
theorem laidOut : laidOutB Tryd.prog = true := by kernel_rfl
set_option maxRecDepth 100000 in
theorem lifted (os : Os) (started : os.Started) (H : Type) (enc : TypeId × Value → H) :
    ReturnsInHanded {} Tryd.checked os 11 .any (fun w args => (Rows.momentReadSpec.pre enc Tryd.prog Tryd.f11 [] false w args ∧ laidMetH Tryd.prog [("postbag/moment.lengths", Rows.laid_postbag_moment_lengths)] w) ∧ sizedMet enc Tryd.prog Tryd.f11 (OpenSpec.ofChange Rows.momentReadSpec) false w args)
      (Rows.momentReadSpec.post enc Tryd.prog Tryd.f11 false true false false) := by
  refine returnsInHanded_of_change_and (C := Tryd.checked) (X := fun w _ => laidMetH Tryd.prog [("postbag/moment.lengths", Rows.laid_postbag_moment_lengths)] w) (fun _ _ _ hh h => h.of_heap hh) own started (by kernel_rfl) Tryd.func11
    (ChangeSpec.witness_shaped (enc := enc) (C := Tryd.checked) (os := os) (X := fun w _ => laidMetH Tryd.prog [("postbag/moment.lengths", Rows.laid_postbag_moment_lengths)] w) false (World.doorLaid Tryd.prog 400 os) #[.string ByteArray.empty] 8 rfl (World.shaped_of_RefB (by kernel_rfl) (by kernel_rfl)) (by kernel_rfl) (by kernel_rfl) (by kernel_rfl) (door_met os _)) ?_
  intro W base args ds gs before hval0 hW hcnd hsz0 hLd _
  have hsz : (DataW.weightsEach Tryd.prog (Tryd.f11.params.toList ++ Rows.momentReadSpec.plain.varTypes Tryd.prog) (ds ++ gs)).all (· ≤ reachBytes) = true := hsz0
  have hval : ∀ (j : Nat) t v, Tryd.f11.params[j]? = some t → args[j]? = some v → Value.okWide Tryd.prog W .any base t v := hval0
  have hW' := hW
  obtain ⟨p, q, hA0, hV, rfl, hfz, hnd⟩ := hW
  have hA : DataW.TrodAll enc Tryd.prog W 0 (fun _ => true) true Tryd.f11.params.toList args.toList ds p := hA0
  rw [Tryd.params11] at hA hval hsz
  obtain ⟨v0, vs0, d0, ds0, p0, q0, hargs, rfl, rfl, h0, r0⟩ := trodAll_cons hA
  obtain ⟨rfl, rfl, rfl⟩ := trodAll_nil r0
  obtain rfl : args = #[v0] := by cases args; simp_all
  obtain ⟨rfl, rfl⟩ := trodVars_none hV
  have k0 := h0
  have lt0 : ∀ x ∈ p0, x.block < W.heap.size := by obtain ⟨m, hm⟩ := k0; exact DataW.trod_lt m _ _ _ hm
  obtain ⟨f0, hf0⟩ := h0
  obtain ⟨y0, hy0, hg0, hb0⟩ := (show Op.Opens Tryd.prog 9 Kd.string _ _ from (Op.op_string Tryd.underlying9)) H enc W 0 _ _ f0 _ _ hf0 (fun n hn => of_decide_eq_true (List.all_eq_true.1 hsz n (Op.mem_each (j := 0) (t := 9) (d := d0) rfl rfl hn)))
  obtain ⟨a0, rfl, _, _, _⟩ := open_string Tryd.underlying9 (hval 0 9 v0 rfl rfl) k0
  obtain rfl : a0 = y0 := by have h_ : [Value.string a0] = [Value.string y0] := hy0; simpa using h_
  clear hA0 hval0 hsz0 hsz
  have hk := Pure.MomentRead a0 hg0
  refine (postbaglaw2_MomentRead.calls _ true W  hk (of_laid hLd)).mono fun e W' ⟨he, bel⟩ => ?_
  subst he
  exact ⟨_, rfl, _, _, _, [], _, [], hW', trodAll_mk1 (shut_bool Tryd.underlying4 _), (trodAll_cons_mk (Below.trod laidOut (by kernel_rfl) (of_decide_eq_true (by kernel_rfl)) k0 bel lt0) trodAll_mk0), rfl, bel.frame _, fun h => by cases h⟩
theorem over : Rows.momentReadRow.holds Tryd.pinned (OpenSpec.ofChange Rows.momentReadSpec) :=
  OpenClaim.holds_of_wide 11 Tryd.f11 rfl rfl rfl rfl rfl rfl rfl ⟨rfl, rfl, rfl, rfl, rfl⟩ rfl rfl rfl rfl rfl (by kernel_rfl) Tryd.func11 (by kernel_rfl)
    (of_decide_eq_true (by kernel_rfl)) (by unfold Func.isWrapper; first | (rw [if_pos (by decide +kernel)]; kernel_rfl) | (rw [if_neg (by decide +kernel)]; exact ⟨rfl, rfl⟩))
    (fun os started H enc _ => lifted os started H enc)
theorem proved : Rows.MomentReadSaid := over
#print axioms proved
theorem card : Rows.MomentReadCardSaid :=
  Claim7.holds_tied_plain_at .later [] [.data] true (true, "1af0d6b0c71ada5c949cf7c1759351fa77ac8f912e484e5567975fe39b370f43") false
    proved (fun _ h => by cases h) (by kernel_rfl) (fun _ h => by cases h) momentRead_row_tie rfl ⟨rfl, rfl⟩ (by kernel_rfl) rfl
    (fun f fn hf hfn => by
      obtain rfl : f = 11 := Option.some.inj ((show Tryd.prog.funcNamed "postbag/postbaglaw2.MomentRead" = some 11 by kernel_rfl).symm.trans hf) |>.symm
      obtain rfl : fn = Tryd.f11 := (Option.some.inj (Tryd.func11.symm.trans hfn)).symm
      exact ⟨by kernel_rfl, fun j t ht => by
        rw [Tryd.params11] at ht
        have hm : t ∈ [9] := by have := Array.mem_of_getElem? ht; (first | simpa using this | (simp at this ⊢; first | exact this.symm | (rcases this with h | h | h <;> first | exact Or.inl h | exact Or.inr h)))
        have hall : ([9].all fun u => !Tryd.prog.wantsStandIn u) = true := by kernel_rfl
        exact (show Tryd.prog.wantsStandIn t = false by simpa using List.all_eq_true.1 hall t hm)⟩)
    (by kernel_rfl)
#print axioms card
end Go.Proofs.YtjlchnmpebdggaaDoor.momentRead
namespace Go.Proofs.YtjlchnmpebdggaaDoor
/-- The tied card, under a short name, for the claim. -/
theorem momentRead_holds : Rows.MomentReadCardSaid := momentRead.card
end Go.Proofs.YtjlchnmpebdggaaDoor
