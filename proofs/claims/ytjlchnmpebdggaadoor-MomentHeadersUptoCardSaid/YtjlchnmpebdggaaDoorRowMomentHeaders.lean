import Derived.Test.YtjlchnmpebdggaaDoorRows
import Derived.Test.YtjlchnmpebdggaaDoorHdr2
import Derived.Test.YtjlchnmpebdggaaDoorHdr14
import Derived.Test.YtjlchnmpebdggaaDoorHdr15
import Derived.WalkKit
import Derived.ProofKit
import Derived.OpenShut
import Derived.ShutString
import Derived.ChangeOld
import Derived.Below
import Derived.SizedLaws
import Derived.Test.YtjlchnmpebdggaaDoorCards
import Derived.Test.YtjlchnmpebdggaaDoorTie
import Derived.LaidMore
import Derived.Stop.Joined
import Derived.SevenTiedAt
import Derived.Deep.CondSized
/- The row of MomentHeaders: for every input that the row lets in (of bulk at most 1048576) the law answers true and leaves its arguments as they were; out of its printed function and the pure statement on it. -/
namespace Go.Proofs.YtjlchnmpebdggaaDoor.momentHeadersU
open Go.ChangeShapes Go.WideShapes Go.ChangeAt Go.RowKit Go.Proofs.YtjlchnmpebdggaaDoor.Mo Go.Proofs.YtjlchnmpebdggaaDoorW.PrintWords
open Go.ChangeMaps (open_string shut_string)
theorem own : ownKnob Tryd.prog.godebug = none := by kernel_rfl
theorem laidOut : laidOutB Tryd.prog = true := by kernel_rfl
theorem agg_of {v : Value} {l : List Value} (h : v.cells.toList = l) (hl : l.length ≠ 1) : v = .agg l.toArray := by
  cases v <;> first | (simp [Value.cells] at h; subst h; simp at hl; done) | (simp [Value.cells] at h; rw [← h])
set_option maxRecDepth 100000 in
theorem lifted (os : Os) (started : os.Started) (H : Type) (enc : TypeId × Value → H) (F : Stop.Interp) :
    ReturnsInHanded {} Tryd.checked os 5 .any (fun w args => ((Rows.OpenSpec.upto Rows.momentHeadersSpec).pre enc Tryd.prog Tryd.f5 [] false w args ∧ laidMetH Tryd.prog [("postbag/moment.lengths", Rows.laid_postbag_moment_lengths)] w) ∧ sizedMet enc Tryd.prog Tryd.f5 (Rows.OpenSpec.upto Rows.momentHeadersSpec) false w args)
      (((Rows.OpenSpec.upto Rows.momentHeadersSpec).at F).post enc Tryd.prog Tryd.f5 false true false false) := by
  refine Go.Proofs.YtjlchnmpebdggaaDoor.Mo.returnsInHanded_of_cond_and (C := Tryd.checked) (s := (Rows.OpenSpec.upto Rows.momentHeadersSpec)) (k := Rows.uptoSmall) rfl (X := fun w _ => laidMetH Tryd.prog [("postbag/moment.lengths", Rows.laid_postbag_moment_lengths)] w) (fun _ _ _ hh h => h.of_heap hh) own started (by kernel_rfl) Tryd.func5
    (Go.Proofs.YtjlchnmpebdggaaDoor.Mo.witness_cond (enc := enc) (C := Tryd.checked) (os := os) (s := (Rows.OpenSpec.upto Rows.momentHeadersSpec)) (laid := [("postbag/moment.lengths", Rows.laid_postbag_moment_lengths)]) false (World.doorLaid Tryd.prog 400 os) #[.string ByteArray.empty, .agg #[.int .i64 0, .int .i64 0, .int .i64 0, .int .i64 0, .int .i64 0, .int .i64 0, .int .i64 0], .string ByteArray.empty] 8 rfl (World.shaped_of_RefB (by kernel_rfl) (by kernel_rfl)) (by kernel_rfl) (x := ([.lit (.string []), .agg [.lit (.int .i64 0), .lit (.int .i64 0), .lit (.int .i64 0), .lit (.int .i64 0), .lit (.int .i64 0), .lit (.int .i64 0), .lit (.int .i64 0)], .lit (.string [])], [], [])) (by kernel_rfl) rfl (fun k hk => by cases hk; kernel_rfl) (by kernel_rfl) (door_met os _)) ?_
  intro W base args ds gs before hval0 hW hcnd huk hsz0 hLd _
  have hsz : (DataW.weightsEach Tryd.prog (Tryd.f5.params.toList ++ Rows.momentHeadersSpec.plain.varTypes Tryd.prog) (ds ++ gs)).all (· ≤ reachBytes) = true := hsz0
  have hval : ∀ (j : Nat) t v, Tryd.f5.params[j]? = some t → args[j]? = some v → Value.okWide Tryd.prog W .any base t v := hval0
  have hW' := hW
  obtain ⟨p, q, hA0, hV, rfl, hfz, hnd⟩ := hW
  have hA : DataW.TrodAll enc Tryd.prog W 0 (fun _ => true) true Tryd.f5.params.toList args.toList ds p := hA0
  rw [Tryd.params5] at hA hval hsz
  obtain ⟨v0, vs0, d0, ds0, p0, q0, hargs, rfl, rfl, h0, r0⟩ := trodAll_cons hA
  obtain ⟨v1, vs1, d1, ds1, p1, q1, rfl, rfl, rfl, h1, r1⟩ := trodAll_cons r0
  obtain ⟨v2, vs2, d2, ds2, p2, q2, rfl, rfl, rfl, h2, r2⟩ := trodAll_cons r1
  obtain ⟨rfl, rfl, rfl⟩ := trodAll_nil r2
  obtain rfl : args = #[v0, v1, v2] := by cases args; simp_all
  obtain ⟨rfl, rfl⟩ := trodVars_none hV
  have k0 := h0
  have lt0 : ∀ x ∈ p0, x.block < W.heap.size := by obtain ⟨m, hm⟩ := k0; exact DataW.trod_lt m _ _ _ hm
  obtain ⟨f0, hf0⟩ := h0
  obtain ⟨y0, hy0, hg0, hb0⟩ := (show Op.Opens Tryd.prog 9 Kd.string _ _ from (Op.op_string Tryd.underlying9)) H enc W 0 _ _ f0 _ _ hf0 (fun n hn => of_decide_eq_true (List.all_eq_true.1 hsz n (Op.mem_each (j := 0) (t := 9) (d := d0) rfl rfl hn)))
  obtain ⟨a0, rfl, ed0, _, _⟩ := open_string Tryd.underlying9 (hval 0 9 v0 rfl rfl) k0
  obtain rfl : a0 = y0 := by have h_ : [Value.string a0] = [Value.string y0] := hy0; simpa using h_
  have k1 := h1
  have lt1 : ∀ x ∈ p1, x.block < W.heap.size := by obtain ⟨m, hm⟩ := k1; exact DataW.trod_lt m _ _ _ hm
  obtain ⟨f1, hf1⟩ := h1
  obtain ⟨y1, hy1, hg1, hb1⟩ := (show Op.Opens Tryd.prog 23 k23 _ _ from (show Op.Opens Tryd.prog 23 k23 _ _ from Op.op_struct (fun x : S23 => (x.f0, x.f1, x.f2, x.f3, x.f4, x.f5, x.f6)) (fun y => (⟨y.1, y.2.1, y.2.2.1, y.2.2.2.1, y.2.2.2.2.1, y.2.2.2.2.2.1, y.2.2.2.2.2.2⟩ : S23)) (fun _ => rfl) Tryd.underlying23 (by kernel_rfl) (Op.op_more (by kernel_rfl) (by kernel_rfl) (Op.op_int Tryd.underlying3) (Op.op_more (by kernel_rfl) (by kernel_rfl) (Op.op_int Tryd.underlying3) (Op.op_more (by kernel_rfl) (by kernel_rfl) (Op.op_int Tryd.underlying3) (Op.op_more (by kernel_rfl) (by kernel_rfl) (Op.op_int Tryd.underlying3) (Op.op_more (by kernel_rfl) (by kernel_rfl) (Op.op_int Tryd.underlying3) (Op.op_more (by kernel_rfl) (by kernel_rfl) (Op.op_int Tryd.underlying3) (Op.op_last (by kernel_rfl) (by kernel_rfl) (Op.op_int Tryd.underlying3)))))))))) H enc W 0 _ _ f1 _ _ hf1 (fun n hn => of_decide_eq_true (List.all_eq_true.1 hsz n (Op.mem_each (j := 1) (t := 23) (d := d1) rfl rfl hn)))
  have hcs1 := k23_open hy1
  obtain rfl := agg_of hcs1 (by simp)
  have k2 := h2
  have lt2 : ∀ x ∈ p2, x.block < W.heap.size := by obtain ⟨m, hm⟩ := k2; exact DataW.trod_lt m _ _ _ hm
  obtain ⟨f2, hf2⟩ := h2
  obtain ⟨y2, hy2, hg2, hb2⟩ := (show Op.Opens Tryd.prog 9 Kd.string _ _ from (Op.op_string Tryd.underlying9)) H enc W 0 _ _ f2 _ _ hf2 (fun n hn => of_decide_eq_true (List.all_eq_true.1 hsz n (Op.mem_each (j := 2) (t := 9) (d := d2) rfl rfl hn)))
  obtain ⟨a2, rfl, ed2, _, _⟩ := open_string Tryd.underlying9 (hval 2 9 v2 rfl rfl) k2
  obtain rfl : a2 = y2 := by have h_ : [Value.string a2] = [Value.string y2] := hy2; simpa using h_
  have hbk : Rows.uptoBulkAll ([d0, d1, d2] ++ []) ≤ 1048576 := of_decide_eq_true huk
  simp only [ed0, ed2, Rows.uptoBulkAll, Rows.uptoBulk, List.append_nil, Array.length_toList] at hbk
  have hbulk : a0.size + 1 + a2.size + 1 ≤ 1048576 := by have e0 : a0.data.size = a0.size := rfl; have e2 : a2.data.size = a2.size := rfl; omega
  clear hA0 hval0 hsz0 hsz
  obtain ⟨k, hk⟩ := Pure.MomentHeaders a0 y1 a2 hg0 hg1 hg2 hbulk
  refine (postbaglaw2_MomentHeaders.calls k _ y1.f0 y1.f1 y1.f2 y1.f3 y1.f4 y1.f5 y1.f6 _ true W  hk (of_laid hLd)).mono fun e W' ⟨he, bel⟩ => ?_
  subst he
  exact ⟨_, rfl, _, _, _, [], _, [], hW', trodAll_mk1 (shut_bool Tryd.underlying4 _), (trodAll_cons_mk (Below.trod laidOut (by kernel_rfl) (of_decide_eq_true (by kernel_rfl)) k0 bel lt0) (trodAll_cons_mk (Below.trod laidOut (by kernel_rfl) (of_decide_eq_true (by kernel_rfl)) k1 bel lt1) (trodAll_cons_mk (Below.trod laidOut (by kernel_rfl) (of_decide_eq_true (by kernel_rfl)) k2 bel lt2) trodAll_mk0))), rfl, bel.frame _, fun h => by cases h⟩
theorem over : Rows.momentHeadersUptoRow.holds Tryd.pinned (Rows.OpenSpec.upto Rows.momentHeadersSpec) :=
  OpenClaim.holds_of_cond 5 Tryd.f5 rfl rfl rfl rfl rfl rfl rfl ⟨rfl, rfl, rfl, rfl, rfl⟩ rfl rfl rfl rfl rfl (by kernel_rfl) Tryd.func5 (by kernel_rfl)
    (of_decide_eq_true (by kernel_rfl)) (by unfold Func.isWrapper; first | (rw [if_pos (by decide +kernel)]; kernel_rfl) | (rw [if_neg (by decide +kernel)]; exact ⟨rfl, rfl⟩))
    (fun os started H enc _ F => lifted os started H enc F)
theorem proved : Rows.MomentHeadersUptoSaid := over
#print axioms proved
theorem card : Rows.MomentHeadersUptoCardSaid :=
  Claim7.holds_tied_plain_at .later [] [.data] true (true, "1af0d6b0c71ada5c949cf7c1759351fa77ac8f912e484e5567975fe39b370f43") false
    proved (fun _ h => by cases h) (by kernel_rfl) (fun _ h => by cases h) momentHeadersUpto_row_tie rfl ⟨rfl, rfl⟩ (by kernel_rfl) rfl
    (fun f fn hf hfn => by
      obtain rfl : f = 5 := Option.some.inj ((show Tryd.prog.funcNamed "postbag/postbaglaw2.MomentHeaders" = some 5 by kernel_rfl).symm.trans hf) |>.symm
      obtain rfl : fn = Tryd.f5 := (Option.some.inj (Tryd.func5.symm.trans hfn)).symm
      exact ⟨by kernel_rfl, fun j t ht => by
        rw [Tryd.params5] at ht
        have hm : t ∈ [9, 23] := by have := Array.mem_of_getElem? ht; (first | simpa using this | (simp at this ⊢; first | exact this.symm | (rcases this with h | h | h <;> first | exact Or.inl h | exact Or.inr h)))
        have hall : ([9, 23].all fun u => !Tryd.prog.wantsStandIn u) = true := by kernel_rfl
        exact (show Tryd.prog.wantsStandIn t = false by simpa using List.all_eq_true.1 hall t hm)⟩)
    (by kernel_rfl)
#print axioms card
end Go.Proofs.YtjlchnmpebdggaaDoor.momentHeadersU
namespace Go.Proofs.YtjlchnmpebdggaaDoor
/-- The tied card, under a short name, for the claim. -/
theorem momentHeadersU_holds : Rows.MomentHeadersUptoCardSaid := momentHeadersU.card
end Go.Proofs.YtjlchnmpebdggaaDoor
