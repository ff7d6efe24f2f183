/- The row of FrameScans: for every input that the row lets in the law answers true and leaves its arguments as they were; out of its printed function and the pure statement on it. -/
import Derived.Test.YtcndhgpaoihblaaRows
import Derived.Test.YtcndhgpaoihblaaOpen
import Derived.Test.YtcndhgpaoihblaaGv
import Derived.Test.YtcndhgpaoihblaaPureFrameScans
import Derived.WalkKit
import Derived.ProofKit
import Derived.OpenShut
import Derived.ShutString
import Derived.ChangeOld
import Derived.Below
import Derived.SizedLaws
namespace Go.Proofs.Ytcndhgpaoihblaa.frameScans
open Go.ChangeShapes Go.WideShapes Go.ChangeAt Go.RowKit Go.Proofs.Ytcndhgpaoihblaa.Fr Go.Proofs.YtcndhgpaoihblaaW.PrintWords
open Go.ChangeMaps (open_string shut_string)
theorem own : ownKnob Try.prog.godebug = none := by kernel_rfl
theorem laidOut : laidOutB Try.prog = true := by kernel_rfl
theorem slice_of {A : Option Addr} {n c : Nat} {a : Option Addr} {m d : Nat} (h : (Value.slice a m d).cells.toList = [Value.slice A n c]) : a = A ∧ m = n ∧ d = c := by
  simpa [Value.cells] using h
set_option maxRecDepth 100000 in
theorem lifted (os : Os) (started : os.Started) (H : Type) (enc : TypeId × Value → H) :
    ReturnsInHanded {} Try.checked os 5 .any (Rows.frameScansSpec.pre6 enc Try.prog Try.f5 Rows.frameScansRow.domain false) (Rows.frameScansSpec.post enc Try.prog Try.f5 false true false false) := by
  refine returnsInHanded_of_change_sized (C := Try.checked) own started (by kernel_rfl) Try.func5
    (ChangeSpec.witness6 (enc := enc) (C := Try.checked) false ⟨#[], #[.slice none 0 0, .int .i64 0], []⟩ 8 (by kernel_rfl) (by kernel_rfl) (by kernel_rfl) (by kernel_rfl)) ?_
  intro W base args ds gs before hval0 hW hcnd hsz0 _
  have hsz : (DataW.weightsEach Try.prog (Try.f5.params.toList ++ Rows.frameScansSpec.plain.varTypes Try.prog) (ds ++ gs)).all (· ≤ reachBytes) = true := hsz0
  have hval : ∀ (j : Nat) t v, Try.f5.params[j]? = some t → args[j]? = some v → Value.okWide Try.prog W .any base t v := hval0
  have hW' := hW
  obtain ⟨p, q, hA0, hV, rfl, hfz, hnd⟩ := hW
  have hA : DataW.TrodAll enc Try.prog W 0 (fun _ => true) true Try.f5.params.toList args.toList ds p := hA0
  rw [Try.params5] at hA hval hsz
  obtain ⟨v0, vs0, d0, ds0, p0, q0, hargs, rfl, rfl, h0, r0⟩ := trodAll_cons hA
  obtain ⟨v1, vs1, d1, ds1, p1, q1, rfl, rfl, rfl, h1, r1⟩ := trodAll_cons r0
  obtain ⟨rfl, rfl, rfl⟩ := trodAll_nil r1
  obtain rfl : args = #[v0, v1] := by cases args; simp_all
  obtain ⟨rfl, rfl⟩ := trodVars_none hV
  have k0 := h0
  have lt0 : ∀ x ∈ p0, x.block < W.heap.size := by obtain ⟨m, hm⟩ := k0; exact DataW.trod_lt m _ _ _ hm
  obtain ⟨f0, hf0⟩ := h0
  obtain ⟨y0, hy0, hg0, hb0⟩ := (show Op.Opens Try.prog 22 (Kd.slice 9 Kd.string) _ _ from (Op.op_slice Try.underlying22 (by kernel_rfl) (Op.op_string Try.underlying9))) H enc W 0 _ _ f0 _ _ hf0 (fun n hn => of_decide_eq_true (List.all_eq_true.1 hsz n (Op.mem_each (j := 0) (t := 22) (d := d0) rfl rfl hn)))
  obtain ⟨a0, len0, cap0, rfl⟩ := okWide_slice Try.underlying22 (hval 0 22 v0 rfl rfl)
  obtain ⟨A0, c0, hcs0, hle0, hC0⟩ := hy0
  obtain ⟨rfl, rfl, rfl⟩ := slice_of hcs0
  have k1 := h1
  have lt1 : ∀ x ∈ p1, x.block < W.heap.size := by obtain ⟨m, hm⟩ := k1; exact DataW.trod_lt m _ _ _ hm
  obtain ⟨f1, hf1⟩ := h1
  obtain ⟨y1, hy1, hg1, hb1⟩ := (show Op.Opens Try.prog 3 (Kd.int .i64) _ _ from (Op.op_int Try.underlying3)) H enc W 0 _ _ f1 _ _ hf1 (fun n hn => of_decide_eq_true (List.all_eq_true.1 hsz n (Op.mem_each (j := 1) (t := 3) (d := d1) rfl rfl hn)))
  obtain ⟨a1, rfl, _, _, _⟩ := open_int Try.underlying3 (hval 1 3 v1 rfl rfl) k1
  obtain rfl : a1 = y1 := by have h_ : [Value.int _ a1] = [Value.int _ y1] := hy1; simpa using h_
  clear hA0 hval0 hsz0 hsz
  have hk := Pure.FrameScans y0 a1 hg0 hg1
  refine (postbaglaw10_FrameScans.calls _ _ y0 _ true W hC0 hle0 hk).mono fun e W' ⟨he, bel⟩ => ?_
  subst he
  exact ⟨_, rfl, _, _, _, [], _, [], hW', trodAll_mk1 (shut_bool Try.underlying4 _), (trodAll_cons_mk (Below.trod laidOut (by kernel_rfl) (of_decide_eq_true (by kernel_rfl)) k0 bel lt0) (trodAll_cons_mk (Below.trod laidOut (by kernel_rfl) (of_decide_eq_true (by kernel_rfl)) k1 bel lt1) trodAll_mk0)), rfl, bel.frame _, fun h => by cases h⟩
theorem over : Rows.frameScansRow.holds Try.pinned (OpenSpec.ofChange Rows.frameScansSpec) :=
  OpenClaim.holds_of_wide 5 Try.f5 rfl rfl rfl rfl rfl rfl rfl ⟨rfl, rfl, rfl, rfl, rfl⟩ rfl rfl rfl rfl rfl (by kernel_rfl) Try.func5 (by kernel_rfl)
    (of_decide_eq_true (by kernel_rfl)) (by unfold Func.isWrapper; first | (rw [if_pos (by decide +kernel)]; kernel_rfl) | (rw [if_neg (by decide +kernel)]; exact ⟨rfl, rfl⟩))
    (fun os started H enc _ => lifted os started H enc)
theorem proved : Rows.FrameScansSaid := over
#print axioms proved
end Go.Proofs.Ytcndhgpaoihblaa.frameScans
namespace Go.Proofs.Ytcndhgpaoihblaa
/-- The row, under a short name, for the claim. -/
theorem frameScans_holds : Rows.FrameScansSaid := frameScans.proved
end Go.Proofs.Ytcndhgpaoihblaa
