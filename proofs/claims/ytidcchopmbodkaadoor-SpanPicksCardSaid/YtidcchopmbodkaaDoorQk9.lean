import Derived.Test.YtidcchopmbodkaaDoorQk8
import Derived.Test.YtidcchopmbodkaaDoorQk3
import Derived.Test.YtidcchopmbodkaaDoorQk2
import Derived.Laws.Tables
import Derived.Test.YtidcchopmbodkaaDoorQk7
import Derived.Test.YtidcchopmbodkaaDoorQk6
import Derived.Test.YtidcchopmbodkaaDoorRows
import Derived.ProofKit
import Derived.LaidMore
import Derived.OpenShut
import Derived.Stop.Joined
import Derived.Lib.LaidTab
section
namespace Go.Proofs.YtidcchopmbodkaaDoor.Sp
open Go.RowKit Go.Proofs.YtidcchopmbodkaaDoorW.PrintWords Go.Proofs.YtidcchopmbodkaaDoorW.PrintLast Go.Proofs.YtidcchopmbodkaaDoorW.PrintMore
theorem known_50 : postbaglaw4_known.f 50 = some true := by kernel_rfl
end Go.Proofs.YtidcchopmbodkaaDoor.Sp
end
section
namespace Go.Proofs.YtidcchopmbodkaaDoor.Sp
open Go.RowKit Go.Proofs.YtidcchopmbodkaaDoorW.PrintWords
theorem store_new {P : Program} {ops : Array Oper} {rest : List Oper} {o : Oper} {a : Act} {W0 : World} {Q : Exit → Act → World → Prop} (ty : TypeId) (p : Tmp) (y : Operand) (ho : o.op = .store ty (.tmp p) y) (hgd : o.guard = none) (hd : o.dst = none)
    (t : TypeId) (old cells : Array Value) (hx : a.eval (.tmp p) = .pointer (some ⟨W0.heap.size, 0, none⟩)) (hy : a.eval y = .agg cells) (hi : (P.info? ty).map (·.size) = some cells.size)
    (hold : old.size = cells.size) (h1 : cells.all (·.oneCell') = true)
    (h : ∀ w1, Below W0.heap.size W0 w1 → w1.heap.size = W0.heap.size + 1 → w1.heap[W0.heap.size]? = some (.cells cells t (0, 0)) → wpList P ops Q rest a w1) : wpList P ops Q (o :: rest) a (W0.alloc (.cells old t (0, 0))) := by
  refine wpList_store_row hgd ty (.tmp p) y ho W0.heap.size cells hx hy t old (heap_alloc_new _ _) hi hold h1 ?_
  rw [hd]
  have hb : Below W0.heap.size W0 (W0.alloc (.cells old t (0, 0))) := below_alloc (Below.refl _ _) _
  refine h _ ⟨rfl, rfl, rfl, by simp [World.setRow], fun k hk => ?_⟩ (by simp [World.setRow]) ?_
  · rw [setRow_other _ _ _ _ (by omega)]
    exact hb.block k hk
  · exact setRow_heap _ _ _ _ _ _ (heap_alloc_new _ _)
end Go.Proofs.YtidcchopmbodkaaDoor.Sp
end
section
namespace Go.Proofs.YtidcchopmbodkaaDoor.Sp
open Go.RowKit Go.Proofs.YtidcchopmbodkaaDoorW.PrintWords Go.Proofs.YtidcchopmbodkaaDoorW.PrintLast Go.Proofs.YtidcchopmbodkaaDoorW.PrintMore
open Classical in
noncomputable def askedL (l : List S38) : Option Bool := if FitsL l ∧ l.length ≤ 8796093022208 then some true else none
theorem askedL_some {l : List S38} {r : Bool} (h : askedL l = some r) : FitsL l ∧ l.length ≤ 8796093022208 ∧ r = true := by
  unfold askedL at h
  split at h
  · rename_i hh
    exact ⟨hh.1, hh.2, (Option.some.inj h).symm⟩
  · cases h
theorem heap28 : Kd.Heap k28 := Kd.heap_iso _ (Kd.heap_pair (Kd.heap_int _) (Kd.heap_int _))
theorem size38 : (Tryd.prog.info? 38).map (·.size) = some 6 := by kernel_rfl
end Go.Proofs.YtidcchopmbodkaaDoor.Sp
end
section
namespace Go.Proofs.YtidcchopmbodkaaDoor.Sp
open Go.RowKit Go.Proofs.YtidcchopmbodkaaDoorW.PrintWords Go.Proofs.YtidcchopmbodkaaDoorW.PrintLast Go.Proofs.YtidcchopmbodkaaDoorW.PrintMore
noncomputable def postbaglaw4_SpanPicks.f (_k : Nat) (l : List S38) : Option Bool := askedL l
theorem ofA_len (s : List S28) (l : List Int) : (ofA s l).length ≤ l.length := List.length_filter_le _ _
theorem info22 : (Tryd.prog.info? 22).map (fun i => (i.zero, i.size, i.bytes)) = some (some (.slice none 0 0), 1, 24) := by kernel_rfl
set_option maxHeartbeats 4000000 in
set_option maxRecDepth 100000 in
theorem postbaglaw4_SpanPicks.calls (k : Nat) (A0 : Option Addr) (c0 : Nat) (l0 : List (S38)) (r : Bool) (w : World) (hr0 : Kd.C k38 w A0 l0.length l0) (hc0 : l0.length ≤ c0) (h : postbaglaw4_SpanPicks.f k l0 = some r) (hL_ : Laid w) :
  Calls Tryd.prog 8 #[.slice A0 l0.length c0] w fun e w' => e = .returned (.bool r) ∧ Below w.heap.size w w' := by
  obtain ⟨hf, hl, rfl⟩ := askedL_some h
  clear h
  obtain ⟨kl, b, hlong, hsh⟩ := longS_f l0 hf hl
  have hlc := postbaglaw4_long.calls kl A0 c0 l0 b w hr0 hc0 hlong
  have HL_ := Aside0.mk hL_
  have HR0 := Aside0.mk hr0
  clear hlong hf hL_ hr0
  cases b with
  | true =>
    clear hsh
    go_enter Tryd.func8, Tryd.ntmps8
    go_wp2_with (go_at_call 21; refine hlc.mono ?_; rintro e w' ⟨rfl, ⟨nd, rfl⟩⟩)
    go_ret
    exact ⟨rfl, pw_below_drewN (Below.refl _ _) _⟩
  | false =>
    replace hsh := hsh rfl
    obtain ⟨hn30, hsh⟩ := hsh
    have HSH := Lib.hid hsh
    clear hsh
    go_enter Tryd.func8, Tryd.ntmps8
    go_wp2_with (go_at_call 21; refine hlc.mono ?_; rintro e w' ⟨rfl, ⟨nd, rfl⟩⟩)
    clear hlc
    have HST0 : Aside0 (LSt (Kd.int .i64) 22 w ((w.drewN nd).alloc (.cells #[.slice none 0 0, .slice none 0 0, .slice none 0 0, .slice none 0 0] 55)) none 0 [] none 0 [] (.slice none 0 0) [] (.slice none 0 0) []) :=
      ⟨⟨by decide, by decide, blk_new (w.drewN nd) _, Kd.R_nil _ _ _ _ _, Kd.R_nil _ _ _ _ _, LS.nil _ _ _ _ _, LS.nil _ _ _ _ _, fun k hk => by simp [Value.ownBlock] at hk, below_alloc (pw_below_drewN (Below.refl w.heap.size w) nd) _⟩⟩
    go_loopw [4, 5, 6] (fun vg vw i W => ∃ (q : Nat) (A6 : Option Addr) (c6 : Nat) (xs : List S28) (A2 : Option Addr) (c2 : Nat) (ns : List Int) (gs : List (List Int)), i = .int .i64 q ∧ q ≤ 2 * l0.length ∧ Aside0 (gs.length = q ∧ ∀ g ∈ gs, g.length ≤ 3000) ∧ Aside0 (LSt (Kd.int .i64) 22 w W A6 c6 xs A2 c2 ns vg gs vw gs)) (fun _ _ i _ => 2 * l0.length - (intOf i).toNat)
    case atStart => exact ⟨0, none, 0, [], none, 0, [], [], rfl, by omega, ⟨rfl, fun g hg => by cases hg⟩, HST0⟩
    case round =>
      obtain ⟨q, A6, c6, xs, A2, c2, ns, gs, rfl, hq, HGS, HST⟩ := hrel
      clear HST0
      by_cases hlt : q < 2 * l0.length
      · have d1 : decide ((q : Int) < 2 * (l0.length : Int)) = true := decide_eq_true (by omega)
        obtain ⟨ht, htl⟩ := turnL_f q l0.length hn30 hlt
        have HT := Lib.hid ht
        clear ht
        generalize turnL q l0.length = t at *
        have p1 : (0 : Int) ≤ (t : Int) := by omega
        have p2 : (t : Int) < (l0.length : Int) := by omega
        obtain ⟨ad, A1, c1, A4, c4, A5, c5, e0, x0, x1, x2, x3, x4, x5, hc1, hC1, hc4, hC4, hc5, hC5⟩ := at_T38 HR0.out (t : Int) p1 p2
        subst e0
        rw [rd38L_at l0 t htl] at *
        have hs := HSH.out l0[t] (List.getElem_mem htl)
        generalize l0[t] = x at *
        rw [Int.toNat_natCast] at x0 x1 x2 x3 x4 x5
        replace x0 := (HST.out.bl.cell (World.block_lt_of_cell? w _ x0)).trans x0
        replace x1 := (HST.out.bl.cell (World.block_lt_of_cell? w _ x1)).trans x1
        replace x2 := (HST.out.bl.cell (World.block_lt_of_cell? w _ x2)).trans x2
        replace x3 := (HST.out.bl.cell (World.block_lt_of_cell? w _ x3)).trans x3
        replace x4 := (HST.out.bl.cell (World.block_lt_of_cell? w _ x4)).trans x4
        replace x5 := (HST.out.bl.cell (World.block_lt_of_cell? w _ x5)).trans x5
        have HC4 := Aside0.mk hC4
        have HS := Lib.hid hs
        have HC := Lib.hid hc4
        have HC1 := Aside0.mk hC1
        have HD := Lib.hid hc1
        clear hC1 hC4 hC5 hc1 hc4 hc5 hs
        go_wp2_with (first | (go_at_call 22; refine (postbaglaw4_turn.calls (q : Int) (l0.length : Int) (t : Int) _ HT.out).mono ?_; rintro e w' ⟨rfl, ⟨nd, rfl⟩⟩) | ((with_reducible refine gate_store (t := 38) (p := 7) rfl ?_); refine store_new 38 7 _ rfl rfl rfl 38 _ #[.string x.f0, .slice A1 x.f1.length c1, .int .i64 x.f2, .int .i64 x.f3, .slice A4 x.f4.length c4, .slice A5 x.f5.length c5] rfl rfl size38 rfl (by simp [Value.oneCell']) ?_; intro w2 hb2 hs2 hn2; clear x0 x1 x2 x3 x4 x5; have HST2 := Aside0.mk ((HST.out.drewN nd).below hb2); have HN2 : Aside0 (w2.heap[wr.heap.size]? = _) := ⟨hn2⟩; have y4 : w2.cell? ⟨wr.heap.size, 4, none⟩ = some (.slice A4 x.f4.length c4) := blk_cell hn2 4; have y1 : w2.cell? ⟨wr.heap.size, 1, none⟩ = some (.slice A1 x.f1.length c1) := blk_cell hn2 1; clear hb2 hs2 hn2 HST))
        have hx4 : x.f4.length ≤ 3000 := HS.out.2.1
        have hx1 : x.f1.length ≤ 3000 := HS.out.1
        have hC2 := Kd.C_below HC4.out (HST2.out.bl.mono (Nat.le_refl _))
        have hD2 := Kd.C_below HC1.out (HST2.out.bl.mono (Nat.le_refl _))
        have hrl := rof_f x.f1 (by omega) x.f4 (by omega) 10000 (by omega)
        have hll := ofA_len x.f1 x.f4
        have hpl := of_f x.f1 x.f4 (by omega) 10000 (by omega)
        generalize ofA x.f1 x.f4 = L at *
        have hrc := postbagref4_Of.calls 10000 A1 c1 x.f1 A4 c4 x.f4 L w2 hD2 HD.out hC2 HC.out hrl
        have HPL := Lib.hid hpl
        have HLL : Hid (L.length ≤ 3000) := by have : L.length ≤ 3000 := by omega
                                               exact this
        clear hC2 hD2 hrl hll hpl
        go_at_call 27
        refine hrc.mono ?_
        rintro e w3 ⟨v8, rfl, hR3, hb3⟩
        obtain ⟨A8, c8, rfl⟩ := Kd.R_slice hR3
        have HST := Aside0.mk (HST2.out.below hb3)
        have hbs := LM.base HST2.out
        have HX := Aside0.mk (Safe.blk (blk_below HN2.out hb3) (M := LM w (.slice A6 xs.length c6) (.slice A2 ns.length c2) u4 u5) (HST.out.apart (blk_below HN2.out hb3) (by decide) (by decide) (by decide) (by decide)))
        have HW := Aside0.mk (Safe.made (M := LM w (.slice A6 xs.length c6) (.slice A2 ns.length c2) u4 u5) hR3 (fun k hk => (hbs k hk).2))
        have HC8 := Aside0.mk (Kd.R_reads' hR3).2.1
        have HI := Aside0.mk (Safe.came (Kd.heap_int .i64) HC4.out HST.out.bl (M := LM w (.slice A6 xs.length c6) (.slice A2 ns.length c2) u4 u5) (fun k hk => (hbs k hk).1))
        have HJ := Aside0.mk (Safe.came heap28 HC1.out HST.out.bl (M := LM w (.slice A6 xs.length c6) (.slice A2 ns.length c2) u4 u5) (fun k hk => (hbs k hk).1))
        replace y4 : w3.cell? ⟨wr.heap.size, 4, none⟩ = some (.slice A4 x.f4.length c4) := blk_cell (Safe.now HX.out) 4
        replace y1 : w3.cell? ⟨wr.heap.size, 1, none⟩ = some (.slice A1 x.f1.length c1) := blk_cell (Safe.now HX.out) 1
        clear hb3 hR3 hrc hbs HST2 HN2
        go_wp2_with fail
        go_upto_region 12 with fail
        go_cut [9] (fun vv9 wc => ∃ (A7 : Option Addr) (c7 n7 : Nat) (A9 : Option Addr) (c9 n9 : Nat) (A10 : Option Addr) (c10 : Nat), vv9 = .slice A10 L.length c10 ∧ Aside0 (L.length ≤ c10) ∧ Aside0 (x.f1.length ≤ n7 ∧ n7 ≤ 6040 ∧ x.f4.length ≤ n9 ∧ n9 ≤ 6040) ∧ Aside0 (LSt (Kd.int .i64) 22 w wc A7 c7 (layA n7 x.f1) A9 c9 (layN n9 x.f4) u4 gs u5 gs) ∧ Aside0 (Safe (fun W => W.heap[wr.heap.size]? = some (.cells #[.string x.f0, .slice A1 x.f1.length c1, .int .i64 x.f2, .int .i64 x.f3, .slice A4 x.f4.length c4, .slice A5 x.f5.length c5] 38 (0, 0))) wc (LM w (.slice A7 (layA n7 x.f1).length c7) (.slice A9 (layN n9 x.f4).length c9) u4 u5)) ∧ Aside0 (Safe (fun W => (Kd.int .i64).C W A8 L.length L) wc (LM w (.slice A7 (layA n7 x.f1).length c7) (.slice A9 (layN n9 x.f4).length c9) u4 u5)) ∧ Aside0 (Safe (fun W => (Kd.int .i64).C W A4 x.f4.length x.f4) wc (LM w (.slice A7 (layA n7 x.f1).length c7) (.slice A9 (layN n9 x.f4).length c9) u4 u5)) ∧ Aside0 (Safe (fun W => k28.C W A1 x.f1.length x.f1) wc (LM w (.slice A7 (layA n7 x.f1).length c7) (.slice A9 (layN n9 x.f4).length c9) u4 u5)) ∧ Aside0 (Safe (fun W => (Kd.int .i64).C W A10 L.length L) wc (LM w (.slice A7 (layA n7 x.f1).length c7) (.slice A9 (layN n9 x.f4).length c9) u4 u5)))
        case first =>
          go_region_held3 (fun w' => w'.cell? ⟨wr.heap.size, 1, none⟩ = some (.slice A1 x.f1.length c1) ∧ w'.cell? ⟨wr.heap.size, 4, none⟩ = some (.slice A4 x.f4.length c4)) (go_keep) ((first | (go_at_call 37; (refine (LSt.ranges (by first | exact HST.out | exact HST.out.drew | exact HST.out.drew.drew) (by decide) A1 c1 x.f1 (by first | exact HJ.out | exact HJ.out.drew | exact HJ.out.drew.drew) hx1).mono ?_); rintro e wa ⟨A7, c7, n7, rfl, hc7, hl7, hn7, hst, hk, hm⟩; have HST_ := Aside0.mk hst; have HX_ := Aside0.mk (Safe.step (by first | exact HX.out | exact HX.out.drew | exact HX.out.drew.drew) hk (fun _ h => h) hm); have HW_ := Aside0.mk (Safe.step (by first | exact HW.out | exact HW.out.drew | exact HW.out.drew.drew) hk (fun _ h => h) hm); have HI_ := Aside0.mk (Safe.step (by first | exact HI.out | exact HI.out.drew | exact HI.out.drew.drew) hk (fun _ h => h) hm); have HJ_ := Aside0.mk (Safe.step (by first | exact HJ.out | exact HJ.out.drew | exact HJ.out.drew.drew) hk (fun _ h => h) hm); clear HST HX HW HI HJ hst hk hm; have HST := HST_; have HX := HX_; have HW := HW_; have HI := HI_; have HJ := HJ_; clear HST_ HX_ HW_ HI_ HJ_; have y4' : wa.cell? ⟨wr.heap.size, 4, none⟩ = some (.slice A4 x.f4.length c4) := blk_cell (Safe.now HX.out) 4; have y1' : wa.cell? ⟨wr.heap.size, 1, none⟩ = some (.slice A1 x.f1.length c1) := blk_cell (Safe.now HX.out) 1; clear y4 y1; have y4 := y4'; have y1 := y1'; clear y4' y1') | (go_at_call 40; (refine (LSt.numbers (by first | exact HST.out | exact HST.out.drew | exact HST.out.drew.drew) (by decide) A4 c4 x.f4 (by first | exact HI.out | exact HI.out.drew | exact HI.out.drew.drew) hx4).mono ?_); rintro e wb ⟨A9, c9, n9, rfl, hc9, hl9, hn9, hst, hk, hm⟩; have HST_ := Aside0.mk hst; have HX_ := Aside0.mk (Safe.step (by first | exact HX.out | exact HX.out.drew | exact HX.out.drew.drew) hk (fun _ h => h) hm); have HW_ := Aside0.mk (Safe.step (by first | exact HW.out | exact HW.out.drew | exact HW.out.drew.drew) hk (fun _ h => h) hm); have HI_ := Aside0.mk (Safe.step (by first | exact HI.out | exact HI.out.drew | exact HI.out.drew.drew) hk (fun _ h => h) hm); have HJ_ := Aside0.mk (Safe.step (by first | exact HJ.out | exact HJ.out.drew | exact HJ.out.drew.drew) hk (fun _ h => h) hm); clear HST HX HW HI HJ hst hk hm; have HST := HST_; have HX := HX_; have HW := HW_; have HI := HI_; have HJ := HJ_; clear HST_ HX_ HW_ HI_ HJ_; have y4' : wb.cell? ⟨wr.heap.size, 4, none⟩ = some (.slice A4 x.f4.length c4) := blk_cell (Safe.now HX.out) 4; have y1' : wb.cell? ⟨wr.heap.size, 1, none⟩ = some (.slice A1 x.f1.length c1) := blk_cell (Safe.now HX.out) 1; clear y4 y1; have y4 := y4'; have y1 := y1'; clear y4' y1') | (go_at_call 19; (refine (span_Of.calls 10000 A7 c7 x.f1 A9 c9 x.f4 L _ (by first | exact (HST.out.laid hl7).1 | exact (HST.out.drew.laid hl7).1 | exact (HST.out.drew.drew.laid hl7).1) hc7 (by first | exact (HST.out.listed hl9).1 | exact (HST.out.drew.listed hl9).1 | exact (HST.out.drew.drew.listed hl9).1) hc9 HPL.out).mono ?_); rintro e wd ⟨v9, rfl, hR, hb⟩; obtain ⟨A10, c10, e10⟩ := Kd.R_slice hR; subst e10; have HST_ := Aside0.mk (show LSt (Kd.int .i64) 22 w wd A7 c7 (layA n7 x.f1) A9 c9 (layN n9 x.f4) u4 gs u5 gs from (by first | exact HST.out.below hb | exact HST.out.drew.below hb | exact HST.out.drew.drew.below hb)); have HX_ := Aside0.mk (show Safe _ wd (LM w (.slice A7 (layA n7 x.f1).length c7) (.slice A9 (layN n9 x.f4).length c9) u4 u5) from (by first | exact HX.out.below hb | exact HX.out.drew.below hb | exact HX.out.drew.drew.below hb)); have HW_ := Aside0.mk (show Safe _ wd (LM w (.slice A7 (layA n7 x.f1).length c7) (.slice A9 (layN n9 x.f4).length c9) u4 u5) from (by first | exact HW.out.below hb | exact HW.out.drew.below hb | exact HW.out.drew.drew.below hb)); have HI_ := Aside0.mk (show Safe _ wd (LM w (.slice A7 (layA n7 x.f1).length c7) (.slice A9 (layN n9 x.f4).length c9) u4 u5) from (by first | exact HI.out.below hb | exact HI.out.drew.below hb | exact HI.out.drew.drew.below hb)); have HJ_ := Aside0.mk (show Safe _ wd (LM w (.slice A7 (layA n7 x.f1).length c7) (.slice A9 (layN n9 x.f4).length c9) u4 u5) from (by first | exact HJ.out.below hb | exact HJ.out.drew.below hb | exact HJ.out.drew.drew.below hb)); have hbs := LM.base HST.out; have HA := Aside0.mk (Safe.made (M := LM w (.slice A7 (layA n7 x.f1).length c7) (.slice A9 (layN n9 x.f4).length c9) u4 u5) hR (fun k hk => (hbs k hk).2)); have HC10 := Aside0.mk (Kd.R_reads' hR).2.1; clear hbs hb hR HST HX HW HI HJ; have HST := HST_; have HX := HX_; have HW := HW_; have HI := HI_; have HJ := HJ_; clear HST_ HX_ HW_ HI_ HJ_; have y4' : wd.cell? ⟨wr.heap.size, 4, none⟩ = some (.slice A4 x.f4.length c4) := blk_cell (Safe.now HX.out) 4; have y1' : wd.cell? ⟨wr.heap.size, 1, none⟩ = some (.slice A1 x.f1.length c1) := blk_cell (Safe.now HX.out) 1; clear y4 y1; have y4 := y4'; have y1 := y1'; clear y4' y1')))
          all_goals
            go_wp2
            go_meet
            exact ⟨A7, c7, n7, A9, c9, n9, A10, c10, rfl, HC10, ⟨hl7, hn7, hl9, hn9⟩, HST, HX, HW, HI, HJ, HA⟩
        case rest =>
          obtain ⟨A7, c7, n7, A9, c9, n9, A10, c10, rfl, HC10, HN, HST, HX, HW, HI, HJ, HA⟩ := hcut
          obtain ⟨hl7, hn7, hl9, hn9⟩ := HN.out
          have hal := fun nd => postbaglaw4_alike.calls 5000 A10 c10 L A8 c8 L true (wc.drewN nd) (Kd.C_drewN (Safe.now HA.out) nd) HC10.out (Kd.C_drewN (Safe.now HW.out) nd) HC8.out (by rw [alike_f L L (by have := HLL.out; omega) 5000 (by have := HLL.out; omega), decide_eq_true rfl])
          have hdk := HST.out.hp
          obtain ⟨hq1, hq2, hq3⟩ := HST.out.laid hl7
          have hrx := Kd.R_reads' HST.out.rx
          have hli := fun nd => postbaglaw4_lies.calls 7000 A7 c7 (layA n7 x.f1) A1 c1 x.f1 true (wc.drewN nd) (Kd.C_drewN hrx.2.2 nd) hrx.2.1 (Kd.C_drewN (Safe.now HJ.out) nd) HD.out (lies_f n7 x.f1 hl7 (by omega) 7000 (by omega))
          have hco := fun nd => (HST.out.drewN nd).counted hl9 hn9 A4 c4 (Kd.C_drewN (Safe.now HI.out) nd) HC.out
          have HAL := Aside0.mk hal
          have HLI := Aside0.mk hli
          have HCO := Aside0.mk hco
          have y0 := blk_cell hdk 0
          have y4 : wc.cell? ⟨wr.heap.size, 4, none⟩ = some (.slice A4 x.f4.length c4) := blk_cell (Safe.now HX.out) 4
          have y1 : wc.cell? ⟨wr.heap.size, 1, none⟩ = some (.slice A1 x.f1.length c1) := blk_cell (Safe.now HX.out) 1
          have HHL := Lib.hid hq3
          clear hdk hq1 hq2 hq3 hrx hli hco hal
          go_wp2_with fail
          go_quiet (first | (go_at_call 18; exact Calls.quiet_of ((HAL.out _).mono (fun _ _ h => ⟨h.1, h.2.out⟩))) | (go_at_call 38; exact Calls.quiet_of ((HLI.out _).mono (fun _ _ h => ⟨h.1, h.2.out⟩))) | (go_at_call 41; exact Calls.quiet_of (HCO.out _)))
          have HST6 := Aside0.mk (HST.out.drewN nq)
          have HW6 := Aside0.mk (HW.out.drewN nq)
          have HA6 := Aside0.mk (HA.out.drewN nq)
          obtain ⟨W6, hW6⟩ : ∃ W6 : World, W6 = wc.drewN nq := ⟨_, rfl⟩
          rw [← hW6] at HST6 HW6 HA6
          rw [← hW6]
          clear HST HX HW HI HJ HA HAL HLI HCO y0 y1 y4 hW6
          have hgl : gs.length ≤ 1000 := by have := HGS.out.1; omega
          go_wp2_with (first | ((with_reducible refine gate_builtin (b := .append) (xs := #[.tmp 64, .tmp 66]) rfl ?_); at_builtin; refine LSt.appG HST6.out (by decide) rfl (.tmp 64) (.tmp 66) 36 rfl Tryd.underlying36 info22 L A10 c10 rfl rfl HC10.out HA6.out hgl ?_; intro v1 w7 hst7 hk7 hm7; have HST7 := Aside0.mk hst7; have HW7 := Aside0.mk (HW6.out.step hk7 (fun _ hk => hk) hm7); clear hst7 hk7 hm7 HST6 HW6 HA6) | ((with_reducible refine gate_builtin (b := .append) (xs := #[.tmp 68, .tmp 70]) rfl ?_); at_builtin; refine LSt.appW HST7.out (by decide) rfl (.tmp 68) (.tmp 70) 36 rfl Tryd.underlying36 info22 L A8 c8 rfl rfl HC8.out HW7.out hgl ?_; intro v2 w8 hst8 hk8 hm8; have HST8 := Aside0.mk hst8; clear hst8 hk8 hm8 HST7 HW7))
          exact ⟨⟨q + 1, A7, c7, layA n7 x.f1, A9, c9, layN n9 x.f4, gs ++ [L], by go_num, by omega, ⟨by rw [List.length_append, HGS.out.1]; rfl, fun g hg => (List.mem_append.1 hg).elim (HGS.out.2 g) (fun h => by rw [List.mem_singleton.1 h]; exact HLL.out)⟩, HST8⟩, by simp [intOf]; omega⟩
      · have d1 : decide ((q : Int) < 2 * (l0.length : Int)) = false := decide_eq_false (by omega)
        obtain ⟨Ag, cg, rfl⟩ := HST.out.g.slice
        obtain ⟨Aw, cw, rfl⟩ := HST.out.v.slice
        have hrng := HST.out.ranges (by decide) none 0 [] (fun W' _ => Kd.C_nil _ _) (by decide)
        go_wp2_with fail
        go_at_call 37
        refine hrng.mono ?_
        rintro e w4 ⟨A7, c7, n7, rfl, hc7, hl7, hn7, hst4, hk4, hm4⟩
        have HST4 := Aside0.mk hst4
        clear hst4 hk4 hm4 hrng HST
        have hnum := HST4.out.numbers (by decide) none 0 [] (fun W' _ => Kd.C_nil _ _) (by decide)
        go_wp2_with fail
        go_at_call 40
        refine hnum.mono ?_
        rintro e w5 ⟨A', c', n, rfl, hc', hln, hn6, hst4, hk4, hm4⟩
        have HST5 := Aside0.mk hst4
        clear hst4 hk4 hm4 hnum HST4
        go_wp2_with fail
        go_loopw [10] (fun i W => ∃ (j : Nat), i = .int .i64 j ∧ j ≤ gs.length ∧ Aside0 (LSt (Kd.int .i64) 22 w W A7 c7 (layA n7 []) A' c' (layN n []) (.slice Ag gs.length cg) gs (.slice Aw gs.length cw) gs)) (fun i _ => gs.length - (intOf i).toNat)
        case atStart => exact ⟨0, rfl, by omega, HST5⟩
        case round =>
          obtain ⟨j, rfl, hj, HST⟩ := hrel
          clear HST5
          by_cases hjl : j < gs.length
          · obtain ⟨g1, cap1, B1, e1, k1, k2, k3, k4, k5⟩ := HST.out.g.get j hjl
            obtain ⟨g2, cap2, B2, e2, m1, m2, m3, m4, m5⟩ := HST.out.v.get j hjl
            injection k1 with k1 _ k1'
            injection m1 with m1 _ m1'
            subst k1; subst k1'; subst m1; subst m1'
            have hgl := HGS.out.2 gs[j] (List.getElem_mem hjl)
            have hj60 : gs.length ≤ 60 := by have := HGS.out.1; omega
            generalize gs[j] = G at *
            have hsm := fun nd => postbaglaw4_alike.calls 5000 B1 e1 G B2 e2 G true (wr.drewN nd) (Kd.C_drewN (Safe.now k5) nd) k4 (Kd.C_drewN (Safe.now m5) nd) m4 (by rw [alike_f G G (by omega) 5000 (by omega), decide_eq_true rfl])
            have HSM := Aside0.mk hsm
            clear k5 m5 hsm k4 m4
            have i1 : (0 : Int) ≤ (j : Int) := by omega
            have i2 : (j : Int) < (gs.length : Int) := by omega
            go_wp2_with fail
            go_quiet ((go_at_call 18; exact Calls.quiet_of ((HSM.out _).mono (fun _ _ h => ⟨h.1, h.2.out⟩))))
            go_wp2
            exact ⟨⟨j + 1, by go_num, by omega, Aside0.mk (HST.out.drewN nq)⟩, by simp [intOf]; omega⟩
          · have d2 : decide ((j : Int) < (gs.length : Int)) = false := decide_eq_false (by omega)
            have hL4 := laid_below HL_.out HST.out.bl
            have HB := Aside0.mk HST.out.bl
            go_wp2_with fail
            go_at_call 20
            refine (postbaglaw4_known.calls 50 true wr known_50 hL4).mono ?_
            rintro e w3 ⟨rfl, hb3⟩
            have HB3 := Aside0.mk (below_step HB.out hb3)
            clear hb3 hL4
            go_wp2_with fail
            go_ret
            exact ⟨rfl, HB3.out⟩
end Go.Proofs.YtidcchopmbodkaaDoor.Sp
end
section
namespace Go.Proofs.YtidcchopmbodkaaDoor.Pure
open Go.Proofs.YtidcchopmbodkaaDoor.Sp
theorem sizesL : Tryd.prog.bytesOf 28 = 16 ∧ Tryd.prog.bytesOf 3 = 8 ∧ Tryd.prog.bytesOf 23 = 24 ∧ Tryd.prog.bytesOf 38 = 104 := ⟨by kernel_rfl, by kernel_rfl, by kernel_rfl, by kernel_rfl⟩
def GoodL (x : S38) : Prop := x.f0.size ≤ 140737488351232 ∧ ((∀ y ∈ x.f1, (Lit.int .i64 y.f0).wf = true ∧ (Lit.int .i64 y.f1).wf = true) ∧ x.f1.length * Tryd.prog.bytesOf 28 ≤ 140737488351232) ∧ (Lit.int .i64 x.f2).wf = true ∧ (Lit.int .i64 x.f3).wf = true ∧
  ((∀ y ∈ x.f4, (Lit.int .i64 y).wf = true) ∧ x.f4.length * Tryd.prog.bytesOf 3 ≤ 140737488351232) ∧ ((∀ y ∈ x.f5, (∀ z ∈ y, (Lit.int .i64 z.f0).wf = true ∧ (Lit.int .i64 z.f1).wf = true) ∧ y.length * Tryd.prog.bytesOf 28 ≤ 140737488351232) ∧ x.f5.length * Tryd.prog.bytesOf 23 ≤ 140737488351232)
theorem fits_ofL {l : List S38} (h : ∀ x ∈ l, GoodL x) : FitsL l := by
  obtain ⟨s1, s2, s3, _⟩ := sizesL
  intro x hx
  obtain ⟨_, ⟨_, h1⟩, _, _, ⟨_, h4⟩, ⟨h5, h6⟩⟩ := h x hx
  rw [s1] at h1
  rw [s2] at h4
  rw [s3] at h6
  refine ⟨by omega, by omega, by omega, fun y hy => ?_⟩
  have := (h5 y hy).2
  rw [s1] at this
  omega
theorem asked_true (l : List S38) (h : (∀ x ∈ l, GoodL x) ∧ l.length * Tryd.prog.bytesOf 38 ≤ 140737488351232) : askedL l = some true := by
  unfold askedL
  exact if_pos ⟨fits_ofL h.1, by have := h.2; rw [sizesL.2.2.2] at this; omega⟩
end Go.Proofs.YtidcchopmbodkaaDoor.Pure
end
section
namespace Go.Proofs.YtidcchopmbodkaaDoor.Pure
open Go.Proofs.YtidcchopmbodkaaDoor.Sp
theorem SpanPicks (l : List S38) (h : (∀ x ∈ l, GoodL x) ∧ l.length * Tryd.prog.bytesOf 38 ≤ 140737488351232) : ∃ k, postbaglaw4_SpanPicks.f k l = some true := ⟨0, asked_true l h⟩
end Go.Proofs.YtidcchopmbodkaaDoor.Pure
end
section
namespace Go.Proofs.YtidcchopmbodkaaDoor.Sp
open Go.ChangeShapes Go.WideShapes Go.ChangeAt Go.RowKit
theorem gPow : Tryd.prog.globalNamed "internal/strconv.uint64pow10" = some 1 := by kernel_rfl
theorem tPow : (Tryd.prog.globals[1]?).map (·.type) = some 134 := by kernel_rfl
theorem door_met (os : Os) (args : Array Value) : laidMetH Tryd.prog [("math/bits.deBruijn32tab", Rows.laid_math_bits_deBruijn32tab), ("math/bits.deBruijn64tab", Rows.laid_math_bits_deBruijn64tab), ("internal/strconv.uint64pow10", Rows.laid_internal_strconv_uint64pow10)] ((World.doorLaid Tryd.prog 400 os).forCall (fun _ _ => 0) ⟨#[], args, []⟩).memory :=
  laidMetH_of_parts3 (fuel := 8) (laidMet_of_run' 8 (by kernel_rfl) (by kernel_rfl)) (by kernel_rfl) (by kernel_rfl)
theorem pow_data {H : Type} : (Rows.laid_internal_strconv_uint64pow10 : DataW H) = Lib.tabData .u64 Lib.pow10Tab := by kernel_rfl
theorem of_laid {W : World} (h : laidMetH Tryd.prog [("math/bits.deBruijn32tab", Rows.laid_math_bits_deBruijn32tab), ("math/bits.deBruijn64tab", Rows.laid_math_bits_deBruijn64tab), ("internal/strconv.uint64pow10", Rows.laid_internal_strconv_uint64pow10)] W) : Laid W := by
  rw [MakeChecks.laidMetH_plain _ _ _ (by kernel_rfl)] at h
  obtain ⟨ps, h1, _, _⟩ := h
  obtain ⟨_, _, _, _, _, _, _, _, _, _, h1, _⟩ := h1
  obtain ⟨_, _, _, _, _, _, _, _, _, _, h1, _⟩ := h1
  obtain ⟨g1, t1, cs1, f1, p1, q1, hg1, ht1, hv1, hd1, _, _⟩ := h1
  obtain rfl := Option.some.inj (gPow.symm.trans hg1)
  obtain rfl := Option.some.inj (tPow.symm.trans ht1)
  rw [pow_data] at hd1
  exact ⟨by unfold Lib.TabIs; rw [hv1, ← Lib.cells_of_tab Tryd.underlying134 Tryd.underlying113 (by kernel_rfl) (by kernel_rfl) hd1]⟩
end Go.Proofs.YtidcchopmbodkaaDoor.Sp
end
