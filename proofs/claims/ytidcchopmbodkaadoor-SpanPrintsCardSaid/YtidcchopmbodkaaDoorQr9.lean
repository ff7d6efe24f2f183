import Derived.Test.YtidcchopmbodkaaDoorQr8
import Derived.Test.YtidcchopmbodkaaDoorQr5
import Derived.Test.YtidcchopmbodkaaDoorQr2
import Derived.Laws.Tables
import Derived.Test.YtidcchopmbodkaaDoorQr3
import Derived.Test.YtidcchopmbodkaaDoorQr7
import Derived.Test.YtidcchopmbodkaaDoorRows
import Derived.ProofKit
import Derived.LaidMore
import Derived.OpenShut
import Derived.Stop.Joined
import Derived.Lib.LaidTab
section
namespace Go.Proofs.YtidcchopmbodkaaDoor.Sp
open Go.RowKit Go.Proofs.YtidcchopmbodkaaDoorW.PrintWords Go.Proofs.YtidcchopmbodkaaDoorW.PrintLast Go.Proofs.YtidcchopmbodkaaDoorW.PrintMore
theorem known_50 : postbaglaw4_known.f 50 = some true := by kernel_rfl
end Go.Proofs.YtidcchopmbodkaaDoor.Sp
end
section
namespace Go.Proofs.YtidcchopmbodkaaDoor.Sp
open Go.RowKit Go.Proofs.YtidcchopmbodkaaDoorW.PrintWords
theorem store_new {P : Program} {ops : Array Oper} {rest : List Oper} {o : Oper} {a : Act} {W0 : World} {Q : Exit → Act → World → Prop} (ty : TypeId) (p : Tmp) (y : Operand) (ho : o.op = .store ty (.tmp p) y) (hgd : o.guard = none) (hd : o.dst = none)
    (t : TypeId) (old cells : Array Value) (hx : a.eval (.tmp p) = .pointer (some ⟨W0.heap.size, 0, none⟩)) (hy : a.eval y = .agg cells) (hi : (P.info? ty).map (·.size) = some cells.size)
    (hold : old.size = cells.size) (h1 : cells.all (·.oneCell') = true)
    (h : ∀ w1, Below W0.heap.size W0 w1 → w1.heap.size = W0.heap.size + 1 → w1.heap[W0.heap.size]? = some (.cells cells t (0, 0)) → wpList P ops Q rest a w1) : wpList P ops Q (o :: rest) a (W0.alloc (.cells old t (0, 0))) := by
  refine wpList_store_row hgd ty (.tmp p) y ho W0.heap.size cells hx hy t old (heap_alloc_new _ _) hi hold h1 ?_
  rw [hd]
  have hb : Below W0.heap.size W0 (W0.alloc (.cells old t (0, 0))) := below_alloc (Below.refl _ _) _
  refine h _ ⟨rfl, rfl, rfl, by simp [World.setRow], fun k hk => ?_⟩ (by simp [World.setRow]) ?_
  · rw [setRow_other _ _ _ _ (by omega)]
    exact hb.block k hk
  · exact setRow_heap _ _ _ _ _ _ (heap_alloc_new _ _)
end Go.Proofs.YtidcchopmbodkaaDoor.Sp
end
section
namespace Go.Proofs.YtidcchopmbodkaaDoor.Sp
open Go.RowKit Go.Proofs.YtidcchopmbodkaaDoorW.PrintWords Go.Proofs.YtidcchopmbodkaaDoorW.PrintLast Go.Proofs.YtidcchopmbodkaaDoorW.PrintMore
open Classical in
noncomputable def askedL (l : List S38) : Option Bool := if FitsL l ∧ l.length ≤ 8796093022208 then some true else none
theorem askedL_some {l : List S38} {r : Bool} (h : askedL l = some r) : FitsL l ∧ l.length ≤ 8796093022208 ∧ r = true := by
  unfold askedL at h
  split at h
  · rename_i hh
    exact ⟨hh.1, hh.2, (Option.some.inj h).symm⟩
  · cases h
noncomputable def postbaglaw4_SpanPrints.f (_k : Nat) (l : List S38) : Option Bool := askedL l
theorem heap28 : Kd.Heap k28 := Kd.heap_iso _ (Kd.heap_pair (Kd.heap_int _) (Kd.heap_int _))
theorem size38 : (Tryd.prog.info? 38).map (·.size) = some 6 := by kernel_rfl
theorem roomB_le (n m : Nat) (hn : n ≤ 6040) (hm : m ≤ 3000) : roomB n m ≤ 6040 := by unfold roomB; split <;> omega
set_option maxHeartbeats 4000000 in
set_option maxRecDepth 100000 in
theorem postbaglaw4_SpanPrints.calls (k : Nat) (A0 : Option Addr) (c0 : Nat) (l0 : List (S38)) (r : Bool) (w : World) (hr0 : Kd.C k38 w A0 l0.length l0) (hc0 : l0.length ≤ c0) (h : postbaglaw4_SpanPrints.f k l0 = some r) (hL_ : Laid w) :
  Calls Tryd.prog 6 #[.slice A0 l0.length c0] w fun e w' => e = .returned (.bool r) ∧ Below w.heap.size w w' := by
  obtain ⟨hf, hl, rfl⟩ := askedL_some h
  clear h
  obtain ⟨kl, b, hlong, hsh⟩ := longS_f l0 hf hl
  have hlc := postbaglaw4_long.calls kl A0 c0 l0 b w hr0 hc0 hlong
  have HL_ := Aside0.mk hL_
  have HR0 := Aside0.mk hr0
  clear hlong hf hL_ hr0
  cases b with
  | true =>
    clear hsh
    go_enter Tryd.func6, Tryd.ntmps6
    go_wp2_with (go_at_call 21; refine hlc.mono ?_; rintro e w' ⟨rfl, ⟨nd, rfl⟩⟩)
    go_ret
    exact ⟨rfl, pw_below_drewN (Below.refl _ _) _⟩
  | false =>
    replace hsh := hsh rfl
    obtain ⟨hn30, hsh⟩ := hsh
    have HSH := Lib.hid hsh
    clear hsh
    go_enter Tryd.func6, Tryd.ntmps6
    go_wp2_with (go_at_call 21; refine hlc.mono ?_; rintro e w' ⟨rfl, ⟨nd, rfl⟩⟩)
    clear hlc
    have HB0 := Aside0.mk (below_alloc (pw_below_drewN (Below.refl w.heap.size w) nd) (.cells #[.slice none 0 0, .slice none 0 0, .slice none 0 0, .slice none 0 0] 55))
    have HP0 := Aside0.mk (blk_new (w.drewN nd) (.cells #[.slice none 0 0, .slice none 0 0, .slice none 0 0, .slice none 0 0] 55))
    go_loopw [4] (fun i W => ∃ (q : Nat) (A : Option Addr) (c : Nat) (xs : List S28), i = .int .i64 q ∧ q ≤ 2 * l0.length ∧ Aside0 (xs.length ≤ 6040) ∧ Aside0 (W.heap[w.heap.size]? = some (.cells #[.slice A xs.length c, .slice none 0 0, .slice none 0 0, .slice none 0 0] 55)) ∧
      Aside0 (Kd.R k28 28 W w.heap.size (fun k => some k = (Value.slice A xs.length c).ownBlock) (.slice A xs.length c) xs) ∧ Aside0 (Below w.heap.size w W)) (fun i _ => 2 * l0.length - (intOf i).toNat)
    case atStart => exact ⟨0, none, 0, [], rfl, by omega, ⟨by decide⟩, ⟨HP0.out⟩, ⟨Kd.R_nil _ _ _ _ _⟩, ⟨HB0.out⟩⟩
    case round =>
      obtain ⟨q, A, c, xs, rfl, hq, HX, HP, HR, HB⟩ := hrel
      clear HB0 HP0
      by_cases hlt : q < 2 * l0.length
      · have d1 : decide ((q : Int) < 2 * (l0.length : Int)) = true := decide_eq_true (by omega)
        obtain ⟨ht, htl⟩ := turnL_f q l0.length hn30 hlt
        have HT := Lib.hid ht
        clear ht
        generalize turnL q l0.length = t at *
        have p1 : (0 : Int) ≤ (t : Int) := by omega
        have p2 : (t : Int) < (l0.length : Int) := by omega
        obtain ⟨ad, A1, c1, A4, c4, A5, c5, e0, x0, x1, x2, x3, x4, x5, hc1, hC1, hc4, hC4, hc5, hC5⟩ := at_T38 HR0.out (t : Int) p1 p2
        subst e0
        rw [rd38L_at l0 t htl] at *
        have hs := HSH.out l0[t] (List.getElem_mem htl)
        generalize l0[t] = x at *
        rw [Int.toNat_natCast] at x0 x1 x2 x3 x4 x5
        replace x0 := (HB.out.cell (World.block_lt_of_cell? w _ x0)).trans x0
        replace x1 := (HB.out.cell (World.block_lt_of_cell? w _ x1)).trans x1
        replace x2 := (HB.out.cell (World.block_lt_of_cell? w _ x2)).trans x2
        replace x3 := (HB.out.cell (World.block_lt_of_cell? w _ x3)).trans x3
        replace x4 := (HB.out.cell (World.block_lt_of_cell? w _ x4)).trans x4
        replace x5 := (HB.out.cell (World.block_lt_of_cell? w _ x5)).trans x5
        have HC1 := Aside0.mk hC1
        have HS := Lib.hid hs
        have HC := Lib.hid hc1
        clear hC1 hC4 hC5 hc1 hc4 hc5 hs
        go_wp2_with (first | (go_at_call 22; refine (postbaglaw4_turn.calls (q : Int) (l0.length : Int) (t : Int) _ HT.out).mono ?_; rintro e w' ⟨rfl, ⟨nd, rfl⟩⟩) | ((with_reducible refine gate_store (t := 38) (p := 5) rfl ?_); go_loud (refine store_new 38 5 _ rfl rfl rfl 38 _ #[.string x.f0, .slice A1 x.f1.length c1, .int .i64 x.f2, .int .i64 x.f3, .slice A4 x.f4.length c4, .slice A5 x.f5.length c5] rfl rfl size38 rfl (by simp [Value.oneCell']) ?_); intro w2 hb2 hs2 hn2; clear x0 x1 x2 x3 x4 x5; have HB2 := Aside0.mk (below_step (pw_below_drewN HB.out nd) hb2); have HP2 := Aside0.mk (blk_below (blk_drewN HP.out nd) hb2); have HR2 := Aside0.mk (Kd.R_below (Kd.R_drewN HR.out nd) hb2); have HN2 : Aside0 (w2.heap[wr.heap.size]? = _) := ⟨hn2⟩; have y1 : w2.cell? ⟨wr.heap.size, 1, none⟩ = some (.slice A1 x.f1.length c1) := blk_cell hn2 1; have hz2 : w2.heap.size = wr.heap.size + 1 := hs2; have HZ2 := Aside0.mk hz2; clear hz2 hb2 hs2 hn2 HB HP HR))
        have hC2 := Kd.C_below HC1.out (HB2.out.mono (Nat.le_refl _))
        have hpr := rprint_f x.f1 250 (Nat.le_refl _)
        generalize hv : printA x.f1 = v at hpr
        obtain ⟨s1, e1⟩ := v
        go_at_call 35
        refine (postbagref4_Print.calls 250 A1 c1 x.f1 s1 e1 w2 hC2 HC.out hpr).mono ?_
        rintro e w3 ⟨rfl, hb3⟩
        have HB3 := Aside0.mk (below_step HB2.out hb3)
        have HP3 := Aside0.mk (blk_below HP2.out hb3)
        have HR3 := Aside0.mk (Kd.R_below HR2.out hb3)
        have HN3 := Aside0.mk (blk_below HN2.out hb3)
        have HZ3 : Aside0 (wr.heap.size < w3.heap.size) := ⟨by have := hb3.size; have := HZ2.out; omega⟩
        replace y1 : w3.cell? ⟨wr.heap.size, 1, none⟩ = some (.slice A1 x.f1.length c1) := blk_cell HN3.out 1
        have HV := Aside0.mk hv
        clear hv hb3 hC2 HB2 HP2 HR2 HN2 HZ2 hpr
        go_wp2_with fail
        have hx1 : x.f1.length ≤ 3000 := HS.out.1
        have hrg := ranges_calls w.heap.size w.heap.size (.slice A xs.length c) (.slice none 0 0) (.slice none 0 0) (.slice none 0 0) xs A1 c1 x.f1 w3 _ HP3.out (Nat.le_refl _) HR3.out
          (Kd.C_kept_came heap28 HC1.out HB3.out (fun k hk => by
            rcases hk with hk | hk
            · omega
            · exact Kd.R_base HR3.out k hk.symm)) (by omega) (by have := HX.out; omega)
        have hrl := roomB_le xs.length x.f1.length HX.out hx1
        have hrg2 := roomB_ge xs.length x.f1.length
        have hly := layA_take (roomB xs.length x.f1.length) x.f1
        have hlf := fun k hk => lies_f (roomB xs.length x.f1.length) x.f1 (by omega) (by omega) k hk
        have hll := layA_len (roomB xs.length x.f1.length) x.f1 (by omega)
        generalize roomB xs.length x.f1.length = n at *
        go_at_call 37
        refine hrg.mono ?_
        rintro e w4 ⟨A', c', rfl, hlc', hR4, hP4, hat, hk4, hb4⟩
        have hC4 : Kd.C k28 w4 A' x.f1.length x.f1 := by
          have h1 := Kd.R_take (m := x.f1.length) hR4 (by omega)
          rw [hly] at h1
          exact (Kd.R_reads' h1).2.2
        have hL4 := laid_below HL_.out (HB3.out.trans hb4)
        have hpr2 := print_f x.f1 70 (Nat.le_refl _)
        rw [HV.out] at hpr2
        have hne1 : wr.heap.size ≠ w.heap.size := Ne.symm (blk_ne HP3.out HN3.out (by decide))
        have hne2 : some wr.heap.size ≠ (Value.slice A xs.length c).ownBlock := Kd.R_ne HR3.out HN3.out (by decide)
        have hN4 := blk_kept HN3.out hk4 (fun h => h.elim hne1 hne2)
        have hb4' := Aside0.mk (HB3.out.trans hb4)
        clear hne1 hne2 hk4 hb4 hrg HB3 HP3 HR3 HN3 HZ3 y1
        go_wp2_with fail
        go_at_call 36
        refine (span_Print.calls 70 A' c' x.f1 s1 e1 w4 hC4 hlc' hpr2 hL4).mono ?_
        rintro e w5 ⟨rfl, hb5⟩
        have HB5 := Aside0.mk (below_step hb4'.out hb5)
        have HP5 := Aside0.mk (blk_below hP4 hb5)
        have HR5 := Aside0.mk (Kd.R_below hR4 hb5)
        have HN5 := Aside0.mk (blk_below hN4 hb5)
        have y0 : w5.cell? ⟨w.heap.size, 0, none⟩ = some (.slice A' n c') := blk_cell HP5.out 0
        have y1 : w5.cell? ⟨wr.heap.size, 1, none⟩ = some (.slice A1 x.f1.length c1) := blk_cell HN5.out 1
        have hRR := Kd.R_reads' HR5.out
        rw [hll] at hRR
        have HRR := Aside0.mk hRR
        have HC5 := Aside0.mk (Kd.C_below HC1.out (HB5.out.mono (Nat.le_refl _)))
        have HLF := Aside0.mk (hlf (n + 2) (Nat.le_refl _))
        have HRL := Aside0.mk hrl
        have HLL := Aside0.mk hll
        clear hb5 hb4' hP4 hR4 hN4 hC4 hL4 hpr2 hlf hly hRR hat hrl hll hrg2
        go_wp2_with fail
        have HNUM := Aside0.mk (show postbaglaw4_num.f e1 = some e1 from rfl)
        have hlies : ∀ nd, Calls Tryd.prog 38 #[.slice A' n c', .slice A1 x.f1.length c1] (w5.drewN nd) fun e w' => e = .returned (.bool true) ∧ ∃ m, w' = (w5.drewN nd).drewN m := by
          intro nd
          have h1 := postbaglaw4_lies.calls (n + 2) A' c' (layA n x.f1) A1 c1 x.f1 true (w5.drewN nd) (by rw [HLL.out]; exact Kd.C_drewN HRR.out.2.2 nd) (by rw [HLL.out]; exact HRR.out.2.1) (Kd.C_drewN HC5.out nd) HC.out HLF.out
          rw [HLL.out] at h1
          exact h1.mono (fun _ _ h => ⟨h.1, h.2.out⟩)
        have HLIES := Aside0.mk hlies
        clear hlies
        go_quiet (first | (go_at_call 34; exact Calls.quiet_of ((postbaglaw4_num.calls e1 e1 _ HNUM.out).mono (fun _ _ h => ⟨h.1, h.2.out⟩))) | (go_at_call 38; exact Calls.quiet_of (HLIES.out _)))
        go_wp2
        exact ⟨⟨q + 1, A', c', layA n x.f1, by go_num, by omega, ⟨by rw [HLL.out]; exact HRL.out⟩, ⟨by rw [HLL.out]; exact HP5.out⟩, ⟨by rw [HLL.out]; exact Kd.R_drewN HR5.out nq⟩, ⟨pw_below_drewN HB5.out nq⟩⟩, by simp [intOf]; omega⟩
      · have d1 : decide ((q : Int) < 2 * (l0.length : Int)) = false := decide_eq_false (by omega)
        have hL4 := laid_below HL_.out HB.out
        go_wp2_with fail
        go_at_call 20
        refine (postbaglaw4_known.calls 50 true wr known_50 hL4).mono ?_
        rintro e w3 ⟨rfl, hb3⟩
        have HB3 := Aside0.mk (below_step HB.out hb3)
        clear hb3 hL4
        go_wp2_with fail
        go_ret
        exact ⟨rfl, HB3.out⟩
end Go.Proofs.YtidcchopmbodkaaDoor.Sp
end
section
namespace Go.Proofs.YtidcchopmbodkaaDoor.Pure
open Go.Proofs.YtidcchopmbodkaaDoor.Sp
theorem sizesL : Tryd.prog.bytesOf 28 = 16 ∧ Tryd.prog.bytesOf 3 = 8 ∧ Tryd.prog.bytesOf 23 = 24 ∧ Tryd.prog.bytesOf 38 = 104 := ⟨by kernel_rfl, by kernel_rfl, by kernel_rfl, by kernel_rfl⟩
def GoodL (x : S38) : Prop := x.f0.size ≤ 140737488351232 ∧ ((∀ y ∈ x.f1, (Lit.int .i64 y.f0).wf = true ∧ (Lit.int .i64 y.f1).wf = true) ∧ x.f1.length * Tryd.prog.bytesOf 28 ≤ 140737488351232) ∧ (Lit.int .i64 x.f2).wf = true ∧ (Lit.int .i64 x.f3).wf = true ∧
  ((∀ y ∈ x.f4, (Lit.int .i64 y).wf = true) ∧ x.f4.length * Tryd.prog.bytesOf 3 ≤ 140737488351232) ∧ ((∀ y ∈ x.f5, (∀ z ∈ y, (Lit.int .i64 z.f0).wf = true ∧ (Lit.int .i64 z.f1).wf = true) ∧ y.length * Tryd.prog.bytesOf 28 ≤ 140737488351232) ∧ x.f5.length * Tryd.prog.bytesOf 23 ≤ 140737488351232)
theorem fits_ofL {l : List S38} (h : ∀ x ∈ l, GoodL x) : FitsL l := by
  obtain ⟨s1, s2, s3, _⟩ := sizesL
  intro x hx
  obtain ⟨_, ⟨_, h1⟩, _, _, ⟨_, h4⟩, ⟨h5, h6⟩⟩ := h x hx
  rw [s1] at h1
  rw [s2] at h4
  rw [s3] at h6
  refine ⟨by omega, by omega, by omega, fun y hy => ?_⟩
  have := (h5 y hy).2
  rw [s1] at this
  omega
theorem asked_true (l : List S38) (h : (∀ x ∈ l, GoodL x) ∧ l.length * Tryd.prog.bytesOf 38 ≤ 140737488351232) : askedL l = some true := by
  unfold askedL
  exact if_pos ⟨fits_ofL h.1, by have := h.2; rw [sizesL.2.2.2] at this; omega⟩
end Go.Proofs.YtidcchopmbodkaaDoor.Pure
end
section
namespace Go.Proofs.YtidcchopmbodkaaDoor.Pure
open Go.Proofs.YtidcchopmbodkaaDoor.Sp
theorem SpanPrints (l : List S38) (h : (∀ x ∈ l, GoodL x) ∧ l.length * Tryd.prog.bytesOf 38 ≤ 140737488351232) : ∃ k, postbaglaw4_SpanPrints.f k l = some true := ⟨0, asked_true l h⟩
end Go.Proofs.YtidcchopmbodkaaDoor.Pure
end
section
namespace Go.Proofs.YtidcchopmbodkaaDoor.Sp
open Go.ChangeShapes Go.WideShapes Go.ChangeAt Go.RowKit
theorem gPow : Tryd.prog.globalNamed "internal/strconv.uint64pow10" = some 1 := by kernel_rfl
theorem tPow : (Tryd.prog.globals[1]?).map (·.type) = some 134 := by kernel_rfl
theorem door_met (os : Os) (args : Array Value) : laidMetH Tryd.prog [("math/bits.deBruijn32tab", Rows.laid_math_bits_deBruijn32tab), ("math/bits.deBruijn64tab", Rows.laid_math_bits_deBruijn64tab), ("internal/strconv.uint64pow10", Rows.laid_internal_strconv_uint64pow10)] ((World.doorLaid Tryd.prog 400 os).forCall (fun _ _ => 0) ⟨#[], args, []⟩).memory :=
  laidMetH_of_parts3 (fuel := 8) (laidMet_of_run' 8 (by kernel_rfl) (by kernel_rfl)) (by kernel_rfl) (by kernel_rfl)
theorem pow_data {H : Type} : (Rows.laid_internal_strconv_uint64pow10 : DataW H) = Lib.tabData .u64 Lib.pow10Tab := by kernel_rfl
theorem of_laid {W : World} (h : laidMetH Tryd.prog [("math/bits.deBruijn32tab", Rows.laid_math_bits_deBruijn32tab), ("math/bits.deBruijn64tab", Rows.laid_math_bits_deBruijn64tab), ("internal/strconv.uint64pow10", Rows.laid_internal_strconv_uint64pow10)] W) : Laid W := by
  rw [MakeChecks.laidMetH_plain _ _ _ (by kernel_rfl)] at h
  obtain ⟨ps, h1, _, _⟩ := h
  obtain ⟨_, _, _, _, _, _, _, _, _, _, h1, _⟩ := h1
  obtain ⟨_, _, _, _, _, _, _, _, _, _, h1, _⟩ := h1
  obtain ⟨g1, t1, cs1, f1, p1, q1, hg1, ht1, hv1, hd1, _, _⟩ := h1
  obtain rfl := Option.some.inj (gPow.symm.trans hg1)
  obtain rfl := Option.some.inj (tPow.symm.trans ht1)
  rw [pow_data] at hd1
  exact ⟨by unfold Lib.TabIs; rw [hv1, ← Lib.cells_of_tab Tryd.underlying134 Tryd.underlying113 (by kernel_rfl) (by kernel_rfl) hd1]⟩
end Go.Proofs.YtidcchopmbodkaaDoor.Sp
end
