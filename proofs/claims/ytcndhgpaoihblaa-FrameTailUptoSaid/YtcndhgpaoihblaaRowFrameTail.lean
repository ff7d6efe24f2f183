/- The row of FrameTailUpto: for every input that the row lets in (of bulk at most 1048576) the law answers true and leaves its arguments as they were; out of its printed function and the pure statement on it. -/
import Derived.Test.YtcndhgpaoihblaaRows
import Derived.Test.YtcndhgpaoihblaaOpen
import Derived.Test.YtcndhgpaoihblaaFr12
import Derived.Test.YtcndhgpaoihblaaPureFrameTail
import Derived.WalkKit
import Derived.ProofKit
import Derived.OpenShut
import Derived.ShutString
import Derived.ChangeOld
import Derived.Below
import Derived.SizedLaws
import Derived.Deep.CondSized
namespace Go.Proofs.Ytcndhgpaoihblaa.frameTailU
open Go.ChangeShapes Go.WideShapes Go.ChangeAt Go.RowKit Go.Proofs.Ytcndhgpaoihblaa.Fr Go.Proofs.YtcndhgpaoihblaaW.PrintWords
open Go.ChangeMaps (open_string shut_string)
theorem own : ownKnob Try.prog.godebug = none := by kernel_rfl
theorem laidOut : laidOutB Try.prog = true := by kernel_rfl
theorem slice_of {A : Option Addr} {n c : Nat} {a : Option Addr} {m d : Nat} (h : (Value.slice a m d).cells.toList = [Value.slice A n c]) : a = A ∧ m = n ∧ d = c := by
  simpa [Value.cells] using h
set_option maxRecDepth 100000 in
theorem lifted (os : Os) (started : os.Started) (H : Type) (enc : TypeId × Value → H) (F : Stop.Interp) :
    ReturnsInHanded {} Try.checked os 8 .any ((Rows.OpenSpec.upto Rows.frameTailSpec).pre6 enc Try.prog Try.f8 Rows.frameTailUptoRow.domain false) (((Rows.OpenSpec.upto Rows.frameTailSpec).at F).post enc Try.prog Try.f8 false true false false) := by
  refine returnsInHanded_of_cond_sized (C := Try.checked) (s := Rows.OpenSpec.upto Rows.frameTailSpec) (k := Rows.uptoSmall) rfl own started (by kernel_rfl) Try.func8
    (OpenSpec.witness (enc := enc) (C := Try.checked) (s := Rows.OpenSpec.upto Rows.frameTailSpec) (k := Rows.uptoSmall) rfl false ⟨#[], #[.int .i64 0, .slice none 0 0, .slice none 0 0, .string ByteArray.empty], []⟩ 8 (by kernel_rfl) (by kernel_rfl) (by kernel_rfl) (x := ([.lit (.int .i64 0), .nil, .nil, .lit (.string [])], [], [])) (by kernel_rfl) rfl (by kernel_rfl)) ?_
  intro W base args ds gs before hval0 hW hcnd huk hsz0 _
  have hsz : (DataW.weightsEach Try.prog (Try.f8.params.toList ++ Rows.frameTailSpec.plain.varTypes Try.prog) (ds ++ gs)).all (· ≤ reachBytes) = true := hsz0
  have hval : ∀ (j : Nat) t v, Try.f8.params[j]? = some t → args[j]? = some v → Value.okWide Try.prog W .any base t v := hval0
  have hW' := hW
  obtain ⟨p, q, hA0, hV, rfl, hfz, hnd⟩ := hW
  have hA : DataW.TrodAll enc Try.prog W 0 (fun _ => true) true Try.f8.params.toList args.toList ds p := hA0
  rw [Try.params8] at hA hval hsz
  obtain ⟨v0, vs0, d0, ds0, p0, q0, hargs, rfl, rfl, h0, r0⟩ := trodAll_cons hA
  obtain ⟨v1, vs1, d1, ds1, p1, q1, rfl, rfl, rfl, h1, r1⟩ := trodAll_cons r0
  obtain ⟨v2, vs2, d2, ds2, p2, q2, rfl, rfl, rfl, h2, r2⟩ := trodAll_cons r1
  obtain ⟨v3, vs3, d3, ds3, p3, q3, rfl, rfl, rfl, h3, r3⟩ := trodAll_cons r2
  obtain ⟨rfl, rfl, rfl⟩ := trodAll_nil r3
  obtain rfl : args = #[v0, v1, v2, v3] := by cases args; simp_all
  obtain ⟨rfl, rfl⟩ := trodVars_none hV
  have k0 := h0
  have lt0 : ∀ x ∈ p0, x.block < W.heap.size := by obtain ⟨m, hm⟩ := k0; exact DataW.trod_lt m _ _ _ hm
  obtain ⟨f0, hf0⟩ := h0
  obtain ⟨y0, hy0, hg0, hb0⟩ := (show Op.Opens Try.prog 3 (Kd.int .i64) _ _ from (Op.op_int Try.underlying3)) H enc W 0 _ _ f0 _ _ hf0 (fun n hn => of_decide_eq_true (List.all_eq_true.1 hsz n (Op.mem_each (j := 0) (t := 3) (d := d0) rfl rfl hn)))
  obtain ⟨a0, rfl, _, _, _⟩ := open_int Try.underlying3 (hval 0 3 v0 rfl rfl) k0
  obtain rfl : a0 = y0 := by have h_ : [Value.int _ a0] = [Value.int _ y0] := hy0; simpa using h_
  have k1 := h1
  have lt1 : ∀ x ∈ p1, x.block < W.heap.size := by obtain ⟨m, hm⟩ := k1; exact DataW.trod_lt m _ _ _ hm
  obtain ⟨f1, hf1⟩ := h1
  obtain ⟨y1, hy1, hg1, hb1⟩ := (show Op.Opens Try.prog 22 (Kd.slice 9 Kd.string) _ _ from (Op.op_slice Try.underlying22 (by kernel_rfl) (Op.op_string Try.underlying9))) H enc W 0 _ _ f1 _ _ hf1 (fun n hn => of_decide_eq_true (List.all_eq_true.1 hsz n (Op.mem_each (j := 1) (t := 22) (d := d1) rfl rfl hn)))
  obtain ⟨a1, len1, cap1, rfl⟩ := okWide_slice Try.underlying22 (hval 1 22 v1 rfl rfl)
  obtain ⟨A1, c1, hcs1, hle1, hC1⟩ := hy1
  obtain ⟨rfl, rfl, rfl⟩ := slice_of hcs1
  have k2 := h2
  have lt2 : ∀ x ∈ p2, x.block < W.heap.size := by obtain ⟨m, hm⟩ := k2; exact DataW.trod_lt m _ _ _ hm
  obtain ⟨f2, hf2⟩ := h2
  obtain ⟨y2, hy2, hg2, hb2⟩ := (show Op.Opens Try.prog 44 (Kd.slice 3 (Kd.int .i64)) _ _ from (Op.op_slice Try.underlying44 (by kernel_rfl) (Op.op_int Try.underlying3))) H enc W 0 _ _ f2 _ _ hf2 (fun n hn => of_decide_eq_true (List.all_eq_true.1 hsz n (Op.mem_each (j := 2) (t := 44) (d := d2) rfl rfl hn)))
  obtain ⟨a2, len2, cap2, rfl⟩ := okWide_slice Try.underlying44 (hval 2 44 v2 rfl rfl)
  obtain ⟨A2, c2, hcs2, hle2, hC2⟩ := hy2
  obtain ⟨rfl, rfl, rfl⟩ := slice_of hcs2
  have k3 := h3
  have lt3 : ∀ x ∈ p3, x.block < W.heap.size := by obtain ⟨m, hm⟩ := k3; exact DataW.trod_lt m _ _ _ hm
  obtain ⟨f3, hf3⟩ := h3
  obtain ⟨y3, hy3, hg3, hb3⟩ := (show Op.Opens Try.prog 9 Kd.string _ _ from (Op.op_string Try.underlying9)) H enc W 0 _ _ f3 _ _ hf3 (fun n hn => of_decide_eq_true (List.all_eq_true.1 hsz n (Op.mem_each (j := 3) (t := 9) (d := d3) rfl rfl hn)))
  obtain ⟨a3, rfl, _, _, _⟩ := open_string Try.underlying9 (hval 3 9 v3 rfl rfl) k3
  obtain rfl : a3 = y3 := by have h_ : [Value.string a3] = [Value.string y3] := hy3; simpa using h_
  clear hA0 hval0 hsz0 hsz
  obtain ⟨k, hk⟩ := Pure.FrameTail a0 y1 y2 a3 hg0 hg1 hg2 hg3
  refine (postbaglaw10_FrameTail.calls k _ _ _ y1 _ _ y2 _ true W hC1 hle1 hC2 hle2 hk).mono fun e W' ⟨he, bel⟩ => ?_
  subst he
  exact ⟨_, rfl, _, _, _, [], _, [], hW', trodAll_mk1 (shut_bool Try.underlying4 _), (trodAll_cons_mk (Below.trod laidOut (by kernel_rfl) (of_decide_eq_true (by kernel_rfl)) k0 bel lt0) (trodAll_cons_mk (Below.trod laidOut (by kernel_rfl) (of_decide_eq_true (by kernel_rfl)) k1 bel lt1) (trodAll_cons_mk (Below.trod laidOut (by kernel_rfl) (of_decide_eq_true (by kernel_rfl)) k2 bel lt2) (trodAll_cons_mk (Below.trod laidOut (by kernel_rfl) (of_decide_eq_true (by kernel_rfl)) k3 bel lt3) trodAll_mk0)))), rfl, bel.frame _, fun h => by cases h⟩
theorem over : Rows.frameTailUptoRow.holds Try.pinned (Rows.OpenSpec.upto Rows.frameTailSpec) :=
  OpenClaim.holds_of_cond 8 Try.f8 rfl rfl rfl rfl rfl rfl rfl ⟨rfl, rfl, rfl, rfl, rfl⟩ rfl rfl rfl rfl rfl (by kernel_rfl) Try.func8 (by kernel_rfl)
    (of_decide_eq_true (by kernel_rfl)) (by unfold Func.isWrapper; first | (rw [if_pos (by decide +kernel)]; kernel_rfl) | (rw [if_neg (by decide +kernel)]; exact ⟨rfl, rfl⟩))
    (fun os started H enc _ F => lifted os started H enc F)
theorem proved : Rows.FrameTailUptoSaid := over
#print axioms proved
end Go.Proofs.Ytcndhgpaoihblaa.frameTailU
namespace Go.Proofs.Ytcndhgpaoihblaa
/-- The row, under a short name, for the claim. -/
theorem frameTailU_holds : Rows.FrameTailUptoSaid := frameTailU.proved
end Go.Proofs.Ytcndhgpaoihblaa
