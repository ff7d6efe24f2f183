import Derived.Test.YtidcchopmbodkaaDoorRows
import Derived.Test.YtidcchopmbodkaaDoorQf2
import Derived.Test.YtidcchopmbodkaaDoorQf7
import Derived.WalkKit
import Derived.ProofKit
import Derived.OpenShut
import Derived.ShutString
import Derived.ChangeOld
import Derived.Below
import Derived.SizedLaws
import Derived.Test.YtidcchopmbodkaaDoorCards
import Derived.Test.YtidcchopmbodkaaDoorTie
import Derived.LaidMore
import Derived.Stop.Joined
import Derived.SevenTiedAt
/- The row of SpanForm: for every input that the row lets in the law answers true and leaves its arguments as they were; out of its printed function and the pure statement on it. -/
namespace Go.Proofs.YtidcchopmbodkaaDoor.spanForm
open Go.ChangeShapes Go.WideShapes Go.ChangeAt Go.RowKit Go.Proofs.YtidcchopmbodkaaDoor.Sp Go.Proofs.YtidcchopmbodkaaDoorW.PrintWords
open Go.ChangeMaps (open_string shut_string)
theorem own : ownKnob Tryd.prog.godebug = none := by kernel_rfl
theorem laidOut : laidOutB Tryd.prog = true := by kernel_rfl
theorem slice_of {A : Option Addr} {n c : Nat} {a : Option Addr} {m d : Nat} (h : (Value.slice a m d).cells.toList = [Value.slice A n c]) : a = A ∧ m = n ∧ d = c := by
  simpa [Value.cells] using h
set_option maxRecDepth 100000 in
theorem lifted (os : Os) (started : os.Started) (H : Type) (enc : TypeId × Value → H) :
    ReturnsInHanded {} Tryd.checked os 14 .any (fun w args => (Rows.spanFormSpec.pre enc Tryd.prog Tryd.f14 [] false w args ∧ laidMetH Tryd.prog [("math/bits.deBruijn32tab", Rows.laid_math_bits_deBruijn32tab), ("math/bits.deBruijn64tab", Rows.laid_math_bits_deBruijn64tab), ("internal/strconv.uint64pow10", Rows.laid_internal_strconv_uint64pow10)] w) ∧ sizedMet enc Tryd.prog Tryd.f14 (OpenSpec.ofChange Rows.spanFormSpec) false w args)
      (Rows.spanFormSpec.post enc Tryd.prog Tryd.f14 false true false false) := by
  refine returnsInHanded_of_change_and (C := Tryd.checked) (X := fun w _ => laidMetH Tryd.prog [("math/bits.deBruijn32tab", Rows.laid_math_bits_deBruijn32tab), ("math/bits.deBruijn64tab", Rows.laid_math_bits_deBruijn64tab), ("internal/strconv.uint64pow10", Rows.laid_internal_strconv_uint64pow10)] w) (fun _ _ _ hh h => h.of_heap hh) own started (by kernel_rfl) Tryd.func14
    (ChangeSpec.witness_shaped (enc := enc) (C := Tryd.checked) (os := os) (X := fun w _ => laidMetH Tryd.prog [("math/bits.deBruijn32tab", Rows.laid_math_bits_deBruijn32tab), ("math/bits.deBruijn64tab", Rows.laid_math_bits_deBruijn64tab), ("internal/strconv.uint64pow10", Rows.laid_internal_strconv_uint64pow10)] w) false (World.doorLaid Tryd.prog 400 os) #[.slice none 0 0, .slice none 0 0, .int .i64 0] 8 rfl (World.shaped_of_RefB (by kernel_rfl) (by kernel_rfl)) (by kernel_rfl) (by kernel_rfl) (by kernel_rfl) (door_met os _)) ?_
  intro W base args ds gs before hval0 hW hcnd hsz0 hLd _
  have hsz : (DataW.weightsEach Tryd.prog (Tryd.f14.params.toList ++ Rows.spanFormSpec.plain.varTypes Tryd.prog) (ds ++ gs)).all (· ≤ reachBytes) = true := hsz0
  have hval : ∀ (j : Nat) t v, Tryd.f14.params[j]? = some t → args[j]? = some v → Value.okWide Tryd.prog W .any base t v := hval0
  have hW' := hW
  obtain ⟨p, q, hA0, hV, rfl, hfz, hnd⟩ := hW
  have hA : DataW.TrodAll enc Tryd.prog W 0 (fun _ => true) true Tryd.f14.params.toList args.toList ds p := hA0
  rw [Tryd.params14] at hA hval hsz
  obtain ⟨v0, vs0, d0, ds0, p0, q0, hargs, rfl, rfl, h0, r0⟩ := trodAll_cons hA
  obtain ⟨v1, vs1, d1, ds1, p1, q1, rfl, rfl, rfl, h1, r1⟩ := trodAll_cons r0
  obtain ⟨v2, vs2, d2, ds2, p2, q2, rfl, rfl, rfl, h2, r2⟩ := trodAll_cons r1
  obtain ⟨rfl, rfl, rfl⟩ := trodAll_nil r2
  obtain rfl : args = #[v0, v1, v2] := by cases args; simp_all
  obtain ⟨rfl, rfl⟩ := trodVars_none hV
  have k0 := h0
  have lt0 : ∀ x ∈ p0, x.block < W.heap.size := by obtain ⟨m, hm⟩ := k0; exact DataW.trod_lt m _ _ _ hm
  obtain ⟨f0, hf0⟩ := h0
  obtain ⟨y0, hy0, hg0, hb0⟩ := (show Op.Opens Tryd.prog 22 (Kd.slice 3 (Kd.int .i64)) _ _ from (Op.op_slice Tryd.underlying22 (by kernel_rfl) (Op.op_int Tryd.underlying3))) H enc W 0 _ _ f0 _ _ hf0 (fun n hn => of_decide_eq_true (List.all_eq_true.1 hsz n (Op.mem_each (j := 0) (t := 22) (d := d0) rfl rfl hn)))
  obtain ⟨a0, len0, cap0, rfl⟩ := okWide_slice Tryd.underlying22 (hval 0 22 v0 rfl rfl)
  obtain ⟨A0, c0, hcs0, hle0, hC0⟩ := hy0
  obtain ⟨rfl, rfl, rfl⟩ := slice_of hcs0
  have k1 := h1
  have lt1 : ∀ x ∈ p1, x.block < W.heap.size := by obtain ⟨m, hm⟩ := k1; exact DataW.trod_lt m _ _ _ hm
  obtain ⟨f1, hf1⟩ := h1
  obtain ⟨y1, hy1, hg1, hb1⟩ := (show Op.Opens Tryd.prog 35 (Kd.slice 23 (Kd.slice 28 k28)) _ _ from (Op.op_slice Tryd.underlying35 (by kernel_rfl) (Op.op_slice Tryd.underlying23 (by kernel_rfl) (show Op.Opens Tryd.prog 28 k28 _ _ from Op.op_struct (fun x : S28 => (x.f0, x.f1)) (fun y => (⟨y.1, y.2⟩ : S28)) (fun _ => rfl) Tryd.underlying28 (by kernel_rfl) (Op.op_more (by kernel_rfl) (by kernel_rfl) (Op.op_int Tryd.underlying3) (Op.op_last (by kernel_rfl) (by kernel_rfl) (Op.op_int Tryd.underlying3))))))) H enc W 0 _ _ f1 _ _ hf1 (fun n hn => of_decide_eq_true (List.all_eq_true.1 hsz n (Op.mem_each (j := 1) (t := 35) (d := d1) rfl rfl hn)))
  obtain ⟨a1, len1, cap1, rfl⟩ := okWide_slice Tryd.underlying35 (hval 1 35 v1 rfl rfl)
  obtain ⟨A1, c1, hcs1, hle1, hC1⟩ := hy1
  obtain ⟨rfl, rfl, rfl⟩ := slice_of hcs1
  have k2 := h2
  have lt2 : ∀ x ∈ p2, x.block < W.heap.size := by obtain ⟨m, hm⟩ := k2; exact DataW.trod_lt m _ _ _ hm
  obtain ⟨f2, hf2⟩ := h2
  obtain ⟨y2, hy2, hg2, hb2⟩ := (show Op.Opens Tryd.prog 3 (Kd.int .i64) _ _ from (Op.op_int Tryd.underlying3)) H enc W 0 _ _ f2 _ _ hf2 (fun n hn => of_decide_eq_true (List.all_eq_true.1 hsz n (Op.mem_each (j := 2) (t := 3) (d := d2) rfl rfl hn)))
  obtain ⟨a2, rfl, _, _, _⟩ := open_int Tryd.underlying3 (hval 2 3 v2 rfl rfl) k2
  obtain rfl : a2 = y2 := by have h_ : [Value.int _ a2] = [Value.int _ y2] := hy2; simpa using h_
  clear hA0 hval0 hsz0 hsz
  obtain ⟨k, hk⟩ := Pure.SpanForm y0 y1 a2 hg0 hg1 hg2
  refine (postbaglaw4_SpanForm.calls k _ _ y0 _ _ y1 _ true W hC0 hle0 hC1 hle1 hk (of_laid hLd)).mono fun e W' ⟨he, bel⟩ => ?_
  subst he
  exact ⟨_, rfl, _, _, _, [], _, [], hW', trodAll_mk1 (shut_bool Tryd.underlying4 _), (trodAll_cons_mk (Below.trod laidOut (by kernel_rfl) (of_decide_eq_true (by kernel_rfl)) k0 bel lt0) (trodAll_cons_mk (Below.trod laidOut (by kernel_rfl) (of_decide_eq_true (by kernel_rfl)) k1 bel lt1) (trodAll_cons_mk (Below.trod laidOut (by kernel_rfl) (of_decide_eq_true (by kernel_rfl)) k2 bel lt2) trodAll_mk0))), rfl, bel.frame _, fun h => by cases h⟩
theorem over : Rows.spanFormRow.holds Tryd.pinned (OpenSpec.ofChange Rows.spanFormSpec) :=
  OpenClaim.holds_of_wide 14 Tryd.f14 rfl rfl rfl rfl rfl rfl rfl ⟨rfl, rfl, rfl, rfl, rfl⟩ rfl rfl rfl rfl rfl (by kernel_rfl) Tryd.func14 (by kernel_rfl)
    (of_decide_eq_true (by kernel_rfl)) (by unfold Func.isWrapper; first | (rw [if_pos (by decide +kernel)]; kernel_rfl) | (rw [if_neg (by decide +kernel)]; exact ⟨rfl, rfl⟩))
    (fun os started H enc _ => lifted os started H enc)
theorem proved : Rows.SpanFormSaid := over
#print axioms proved
theorem card : Rows.SpanFormCardSaid :=
  Claim7.holds_tied_plain_at .later [] [.data, .data, .data] true (true, "1085c60597c3cedac7dee0f3e7d1982280ffea4ecf98505ac42c408dd6b07b69") false
    proved (fun _ h => by cases h) (by kernel_rfl) (fun _ h => by cases h) spanForm_row_tie rfl ⟨rfl, rfl⟩ (by kernel_rfl) rfl
    (fun f fn hf hfn => by
      obtain rfl : f = 14 := Option.some.inj ((show Tryd.prog.funcNamed "postbag/postbaglaw4.SpanForm" = some 14 by kernel_rfl).symm.trans hf) |>.symm
      obtain rfl : fn = Tryd.f14 := (Option.some.inj (Tryd.func14.symm.trans hfn)).symm
      exact ⟨by kernel_rfl, fun j t ht => by
        rw [Tryd.params14] at ht
        have hm : t ∈ [3, 22, 35] := by have := Array.mem_of_getElem? ht; (first | simpa using this | (simp at this ⊢; first | exact this.symm | (rcases this with h | h | h <;> first | exact Or.inl h | exact Or.inr h | simp [h])))
        have hall : ([3, 22, 35].all fun u => !Tryd.prog.wantsStandIn u) = true := by kernel_rfl
        exact (show Tryd.prog.wantsStandIn t = false by simpa using List.all_eq_true.1 hall t hm)⟩)
    (by kernel_rfl)
#print axioms card
end Go.Proofs.YtidcchopmbodkaaDoor.spanForm
namespace Go.Proofs.YtidcchopmbodkaaDoor
/-- The tied card, under a short name, for the claim. -/
theorem spanForm_holds : Rows.SpanFormCardSaid := spanForm.card
end Go.Proofs.YtidcchopmbodkaaDoor
