import Derived.Test.YtidcchopmbodkaaDoorQj9
import Derived.Test.YtidcchopmbodkaaDoorQj3
import Derived.Test.YtidcchopmbodkaaDoorQj2
import Derived.Laws.Tables
import Derived.Test.YtidcchopmbodkaaDoorQj7
import Derived.Test.YtidcchopmbodkaaDoorQj8
import Derived.Test.YtidcchopmbodkaaDoorRows
import Derived.Test.YtidcchopmbodkaaDoorQj4
import Derived.ProofKit
import Derived.LaidMore
import Derived.OpenShut
import Derived.Stop.Joined
import Derived.Lib.LaidTab
section
namespace Go.Proofs.YtidcchopmbodkaaDoor.Sp
open Go.RowKit Go.Proofs.YtidcchopmbodkaaDoorW.PrintWords Go.Proofs.YtidcchopmbodkaaDoorW.PrintLast Go.Proofs.YtidcchopmbodkaaDoorW.PrintMore
theorem known_50 : postbaglaw4_known.f 50 = some true := by kernel_rfl
end Go.Proofs.YtidcchopmbodkaaDoor.Sp
end
section
namespace Go.Proofs.YtidcchopmbodkaaDoor.Sp
open Go.RowKit Go.Proofs.YtidcchopmbodkaaDoorW.PrintWords
theorem store_new {P : Program} {ops : Array Oper} {rest : List Oper} {o : Oper} {a : Act} {W0 : World} {Q : Exit → Act → World → Prop} (ty : TypeId) (p : Tmp) (y : Operand) (ho : o.op = .store ty (.tmp p) y) (hgd : o.guard = none) (hd : o.dst = none)
    (t : TypeId) (old cells : Array Value) (hx : a.eval (.tmp p) = .pointer (some ⟨W0.heap.size, 0, none⟩)) (hy : a.eval y = .agg cells) (hi : (P.info? ty).map (·.size) = some cells.size)
    (hold : old.size = cells.size) (h1 : cells.all (·.oneCell') = true)
    (h : ∀ w1, Below W0.heap.size W0 w1 → w1.heap.size = W0.heap.size + 1 → w1.heap[W0.heap.size]? = some (.cells cells t (0, 0)) → wpList P ops Q rest a w1) : wpList P ops Q (o :: rest) a (W0.alloc (.cells old t (0, 0))) := by
  refine wpList_store_row hgd ty (.tmp p) y ho W0.heap.size cells hx hy t old (heap_alloc_new _ _) hi hold h1 ?_
  rw [hd]
  have hb : Below W0.heap.size W0 (W0.alloc (.cells old t (0, 0))) := below_alloc (Below.refl _ _) _
  refine h _ ⟨rfl, rfl, rfl, by simp [World.setRow], fun k hk => ?_⟩ (by simp [World.setRow]) ?_
  · rw [setRow_other _ _ _ _ (by omega)]
    exact hb.block k hk
  · exact setRow_heap _ _ _ _ _ _ (heap_alloc_new _ _)
end Go.Proofs.YtidcchopmbodkaaDoor.Sp
end
section
namespace Go.Proofs.YtidcchopmbodkaaDoor.Sp
open Go.RowKit Go.Proofs.YtidcchopmbodkaaDoorW.PrintWords Go.Proofs.YtidcchopmbodkaaDoorW.PrintLast Go.Proofs.YtidcchopmbodkaaDoorW.PrintMore
open Classical in
noncomputable def askedL (l : List S38) : Option Bool := if FitsL l ∧ l.length ≤ 8796093022208 then some true else none
theorem askedL_some {l : List S38} {r : Bool} (h : askedL l = some r) : FitsL l ∧ l.length ≤ 8796093022208 ∧ r = true := by
  unfold askedL at h
  split at h
  · rename_i hh
    exact ⟨hh.1, hh.2, (Option.some.inj h).symm⟩
  · cases h
theorem size38 : (Tryd.prog.info? 38).map (·.size) = some 6 := by kernel_rfl
end Go.Proofs.YtidcchopmbodkaaDoor.Sp
end
section
namespace Go.Proofs.YtidcchopmbodkaaDoor.Sp
open Canon
open Go.RowKit Go.Proofs.YtidcchopmbodkaaDoorW.PrintWords Go.Proofs.YtidcchopmbodkaaDoorW.PrintLast Go.Proofs.YtidcchopmbodkaaDoorW.PrintMore
noncomputable def postbaglaw4_SpanJoins.f (_k : Nat) (l : List S38) : Option Bool := askedL l
theorem joinA_len (l : List S28) : (joinA l).length ≤ l.length + 2 := by
  have h1 := jfold_len l j0
  have h0 : j0.p.length = 0 := rfl
  unfold joinA jfin
  generalize l.foldl jstep j0 = s at *
  have h2 := canon_len ((if s.lo = s.hi then s.p else s.p ++ [(⟨s.lo, s.hi⟩ : S28)]).map pr)
  have h3 : (if s.lo = s.hi then s.p else s.p ++ [(⟨s.lo, s.hi⟩ : S28)]).length ≤ s.p.length + 1 := by split <;> simp
  rw [List.length_map] at h2
  simp only
  split
  · rw [List.length_append, List.length_map, List.length_singleton]; omega
  · rw [List.length_map]; omega
set_option maxHeartbeats 4000000 in
set_option maxRecDepth 100000 in
theorem postbaglaw4_SpanJoins.calls (k : Nat) (A0 : Option Addr) (c0 : Nat) (l0 : List (S38)) (r : Bool) (w : World) (hr0 : Kd.C k38 w A0 l0.length l0) (hc0 : l0.length ≤ c0) (h : postbaglaw4_SpanJoins.f k l0 = some r) (hL_ : Laid w) :
  Calls Tryd.prog 10 #[.slice A0 l0.length c0] w fun e w' => e = .returned (.bool r) ∧ Below w.heap.size w w' := by
  obtain ⟨hf, hl, rfl⟩ := askedL_some h
  clear h
  obtain ⟨kl, b, hlong, hsh⟩ := longS_f l0 hf hl
  have hlc := postbaglaw4_long.calls kl A0 c0 l0 b w hr0 hc0 hlong
  have HL_ := Aside0.mk hL_
  have HR0 := Aside0.mk hr0
  clear hlong hf hL_ hr0
  cases b with
  | true =>
    clear hsh
    go_enter Tryd.func10, Tryd.ntmps10
    go_wp2_with (go_at_call 21; refine hlc.mono ?_; rintro e w' ⟨rfl, ⟨nd, rfl⟩⟩)
    go_ret
    exact ⟨rfl, pw_below_drewN (Below.refl _ _) _⟩
  | false =>
    replace hsh := hsh rfl
    obtain ⟨hn30, hsh⟩ := hsh
    have HSH := Lib.hid hsh
    clear hsh
    go_enter Tryd.func10, Tryd.ntmps10
    go_wp2_with (go_at_call 21; refine hlc.mono ?_; rintro e w' ⟨rfl, ⟨nd, rfl⟩⟩)
    clear hlc
    have HST0 : Aside0 (JSt w ((w.drewN nd).alloc (.cells #[.slice none 0 0, .slice none 0 0, .slice none 0 0, .slice none 0 0] 55)) (.slice none ([] : List Value).length 0) (.slice none ([] : List Value).length 0) [] [] [] (.slice none 0 0) [] (.slice none 0 0) []) :=
      ⟨⟨⟨blk_new (w.drewN nd) _, Nat.le_refl _, Kd.R_nil _ _ _ _ _, Kd.R_nil _ _ _ _ _, rfl, fun i v xs h => by simp at h, fun i j v u _ h => by simp at h, fun k hk => by simp [Value.ownBlock] at hk, fun xs h => by simp at h, by decide, by decide⟩, LS.nil _ _ _ _ _, LS.nil _ _ _ _ _, fun k hk => by simp [Value.ownBlock] at hk, fun k _ => ⟨by simp [Value.ownBlock], by simp [Value.ownBlock]⟩, below_alloc (pw_below_drewN (Below.refl w.heap.size w) nd) _⟩⟩
    go_loopw [4, 5, 6] (fun vg vw i W => ∃ (q : Nat) (Ai At : Option Addr) (ci ct : Nat) (vals : List Value) (xss : List (List S28)) (tvs : List Value) (gs : List (List S28)), i = .int .i64 q ∧ q ≤ 2 * l0.length ∧ Aside0 (gs.length = q ∧ ∀ g ∈ gs, g.length ≤ 3010) ∧ Aside0 (JSt w W (.slice Ai vals.length ci) (.slice At tvs.length ct) vals xss tvs vg gs vw gs)) (fun _ _ i _ => 2 * l0.length - (intOf i).toNat)
    case atStart => exact ⟨0, none, none, 0, 0, [], [], [], [], rfl, by omega, ⟨rfl, fun g hg => by cases hg⟩, HST0⟩
    case round =>
      obtain ⟨q, Ai, At, ci, ct, vals, xss, tvs, gs, rfl, hq, HGS, HST⟩ := hrel
      clear HST0
      by_cases hlt : q < 2 * l0.length
      · have d1 : decide ((q : Int) < 2 * (l0.length : Int)) = true := decide_eq_true (by omega)
        obtain ⟨ht, htl⟩ := turnL_f q l0.length hn30 hlt
        have HT := Lib.hid ht
        clear ht
        generalize turnL q l0.length = t at *
        have p1 : (0 : Int) ≤ (t : Int) := by omega
        have p2 : (t : Int) < (l0.length : Int) := by omega
        obtain ⟨ad, A1, c1, A4, c4, A5, c5, e0, x0, x1, x2, x3, x4, x5, hc1, hC1, hc4, hC4, hc5, hC5⟩ := at_T38 HR0.out (t : Int) p1 p2
        subst e0
        rw [rd38L_at l0 t htl] at *
        have hs := HSH.out l0[t] (List.getElem_mem htl)
        generalize l0[t] = x at *
        rw [Int.toNat_natCast] at x0 x1 x2 x3 x4 x5
        replace x0 := (HST.out.bl.cell (World.block_lt_of_cell? w _ x0)).trans x0
        replace x1 := (HST.out.bl.cell (World.block_lt_of_cell? w _ x1)).trans x1
        replace x2 := (HST.out.bl.cell (World.block_lt_of_cell? w _ x2)).trans x2
        replace x3 := (HST.out.bl.cell (World.block_lt_of_cell? w _ x3)).trans x3
        replace x4 := (HST.out.bl.cell (World.block_lt_of_cell? w _ x4)).trans x4
        replace x5 := (HST.out.bl.cell (World.block_lt_of_cell? w _ x5)).trans x5
        have HC5 := Aside0.mk hC5
        have HS := Lib.hid hs
        have HC := Lib.hid hc5
        clear hC1 hC4 hC5 hc1 hc4 hc5 hs
        go_wp2_with (first | (go_at_call 22; refine (postbaglaw4_turn.calls (q : Int) (l0.length : Int) (t : Int) _ HT.out).mono ?_; rintro e w' ⟨rfl, ⟨nd, rfl⟩⟩) | ((with_reducible refine gate_store (t := 38) (p := 7) rfl ?_); refine store_new 38 7 _ rfl rfl rfl 38 _ #[.string x.f0, .slice A1 x.f1.length c1, .int .i64 x.f2, .int .i64 x.f3, .slice A4 x.f4.length c4, .slice A5 x.f5.length c5] rfl rfl size38 rfl (by simp [Value.oneCell']) ?_; intro w2 hb2 hs2 hn2; clear x0 x1 x2 x3 x4 x5; have HST2 := Aside0.mk ((HST.out.drewN nd).below hb2); have HN2 : Aside0 (w2.heap[wr.heap.size]? = _) := ⟨hn2⟩; have y5 : w2.cell? ⟨wr.heap.size, 5, none⟩ = some (.slice A5 x.f5.length c5) := blk_cell hn2 5; clear hb2 hs2 hn2 HST))
        have hx5 : x.f5.length ≤ 3000 := HS.out.2.2.1
        have hxf : x.f5.flatten.length ≤ 3000 := HS.out.2.2.2
        have hC2 := Kd.C_below HC5.out (HST2.out.bl.mono (Nat.le_refl _))
        have hrl := rjoin_f x.f5 (by omega) (by omega) 200000 (by omega)
        have hll := joinA_len x.f5.flatten
        have hpl := join_f x.f5 (by omega) (by omega) 200000 (by rw [cost_le]; omega)
        have hxe : ∀ y ∈ x.f5, y.length ≤ 3000 := fun y hy => by have := List.Sublist.length_le (List.sublist_flatten_of_mem hy); omega
        generalize joinA x.f5.flatten = L at *
        have hrc := postbagref4_Join.calls 200000 A5 c5 x.f5 L w2 hC2 HC.out hrl
        have HPL := Lib.hid hpl
        have HXE := Lib.hid hxe
        have HLL : Hid (L.length ≤ 3010) := by have : L.length ≤ 3010 := by omega
                                               exact this
        clear hC2 hrl hll hpl hxe
        go_at_call 29
        refine hrc.mono ?_
        rintro e w3 ⟨v8, rfl, hR3, hb3⟩
        obtain ⟨A8, c8, rfl⟩ := Kd.R_slice hR3
        have HST3 := Aside0.mk (HST2.out.below hb3)
        have hbs := JSt.base HST2.out
        have HX3 := Aside0.mk (Safe.blk (blk_below HN2.out hb3) (M := (JM w.heap.size (.slice Ai vals.length ci) (.slice At tvs.length ct) vals u4 u5)) (HST3.out.apart (blk_below HN2.out hb3) (by decide) (by decide) (by decide)))
        have HW3 := Aside0.mk (Safe.made (M := (JM w.heap.size (.slice Ai vals.length ci) (.slice At tvs.length ct) vals u4 u5)) hR3 (fun k hk => (hbs k hk).2))
        have HC8 := Aside0.mk (Kd.R_reads' hR3).2.1
        have HI3 := Aside0.mk (Safe.came heapL28 HC5.out HST3.out.bl (M := (JM w.heap.size (.slice Ai vals.length ci) (.slice At tvs.length ct) vals u4 u5)) (fun k hk => (hbs k hk).1))
        replace y5 : w3.cell? ⟨wr.heap.size, 5, none⟩ = some (.slice A5 x.f5.length c5) := blk_cell (Safe.now HX3.out) 5
        have hsv := HST3.out.several A5 c5 x.f5 HI3.out hx5 HXE.out
        clear hb3 hR3 hrc hbs HST2 HN2
        go_wp2_with fail
        go_at_call 42
        refine hsv.mono ?_
        rintro e w4 ⟨Ai', At', ci', ct', vals', xss', tvs', rfl, hct, hlj, hst4, hk4, hm4⟩
        have HST4 := Aside0.mk hst4
        have HLJ := Aside0.mk hlj
        have HX4 := Aside0.mk (HX3.out.step hk4 (fun _ hk => hk) hm4)
        have HW4 := Aside0.mk (HW3.out.step hk4 (fun _ hk => hk) hm4)
        have HI4 := Aside0.mk (HI3.out.step hk4 (fun _ hk => hk) hm4)
        have hC4 := hst4.d.laidC hlj
        have hsc := span_Join.calls 200000 At' ct' x.f5 L w4 hC4 hct HPL.out
        clear hst4 hk4 hm4 hC4 hlj HX3 HW3 HI3 HST3 hsv y5
        go_wp2_with fail
        go_at_call 25
        refine hsc.mono ?_
        rintro e w5 ⟨v9, rfl, hR5, hb5⟩
        obtain ⟨A9, c9, rfl⟩ := Kd.R_slice hR5
        have hbs := JSt.base HST4.out
        have HST5 := Aside0.mk (HST4.out.below hb5)
        have HX5 := Aside0.mk (HX4.out.below hb5)
        have HW5 := Aside0.mk (HW4.out.below hb5)
        have HI5 := Aside0.mk (HI4.out.below hb5)
        have HA5 := Aside0.mk (Safe.made (M := (JM w.heap.size (.slice Ai' vals'.length ci') (.slice At' tvs'.length ct') vals' u4 u5)) hR5 (fun k hk => (hbs k hk).2))
        have HC9 := Aside0.mk (Kd.R_reads' hR5).2.1
        have y5 : w5.cell? ⟨wr.heap.size, 5, none⟩ = some (.slice A5 x.f5.length c5) := blk_cell (Safe.now HX5.out) 5
        have hsm := postbaglaw4_same.calls 5000 A9 c9 L A8 c8 L true w5 (Safe.now HA5.out) HC9.out (Safe.now HW5.out) HC8.out (by rw [same_f L L (by have := HLL.out; omega) 5000 (by have := HLL.out; omega), decide_eq_true rfl])
        clear hb5 hR5 hsc hbs HST4 HX4 HW4 HI4
        go_wp2_with fail
        go_at_call 26
        refine hsm.mono ?_
        rintro e w' ⟨rfl, ⟨nd, rfl⟩⟩
        have hco := stand_calls w.heap.size w.heap.size Ai' At' ci' ct' vals' xss' tvs' A5 c5 x.f5 (w5.drewN nd) (HST5.out.drewN nd).d HLJ.out ((HI5.out.drewN nd).step (S := fun _ => False) (Kept.refl _ _) (fun _ hk => hk.elim) (fun k hk => Or.inl (Or.inl hk))) hx5 HXE.out
        clear hsm
        go_wp2_with fail
        go_at_call 43
        refine hco.mono ?_
        rintro e w' ⟨rfl, ⟨nd2, rfl⟩⟩
        clear hco y5
        have HST6 := Aside0.mk ((HST5.out.drewN nd).drewN nd2)
        have HW6 := Aside0.mk ((HW5.out.drewN nd).drewN nd2)
        have HA6 := Aside0.mk ((HA5.out.drewN nd).drewN nd2)
        obtain ⟨W6, hW6⟩ : ∃ W6 : World, W6 = (w5.drewN nd).drewN nd2 := ⟨_, rfl⟩
        have hW7 : w5.drewN (nd + nd2) = W6 := by rw [hW6]; exact (World.drewN_drewN _ _ _).symm
        rw [← hW6] at HST6 HW6 HA6
        try rw [hW7]
        try rw [← hW6]
        clear HST5 HX5 HW5 HI5 HA5 hW7 hW6
        have hgl : gs.length ≤ 1000 := by have := HGS.out.1; omega
        go_wp2_with (first | ((with_reducible refine gate_builtin (b := .append) (xs := #[.tmp 48, .tmp 50]) rfl ?_); at_builtin; refine JSt.appG HST6.out rfl (.tmp 48) (.tmp 50) 35 rfl Tryd.underlying35 info23 L A9 c9 rfl rfl HC9.out HA6.out hgl ?_; intro v1 w7 hst7 hk7 hm7; have HST7 := Aside0.mk hst7; have HW7 := Aside0.mk (HW6.out.step hk7 (fun _ hk => hk) hm7); clear hst7 hk7 hm7 HST6 HW6 HA6) | ((with_reducible refine gate_builtin (b := .append) (xs := #[.tmp 52, .tmp 54]) rfl ?_); at_builtin; refine JSt.appW HST7.out rfl (.tmp 52) (.tmp 54) 35 rfl Tryd.underlying35 info23 L A8 c8 rfl rfl HC8.out HW7.out hgl ?_; intro v2 w8 hst8 hk8 hm8; have HST8 := Aside0.mk hst8; clear hst8 hk8 hm8 HST7 HW7))
        exact ⟨⟨q + 1, Ai', At', ci', ct', vals', xss', tvs', gs ++ [L], by go_num, by omega, ⟨by rw [List.length_append, HGS.out.1]; rfl, fun g hg => (List.mem_append.1 hg).elim (HGS.out.2 g) (fun h => by rw [List.mem_singleton.1 h]; exact HLL.out)⟩, HST8⟩, by simp [intOf]; omega⟩
      · have d1 : decide ((q : Int) < 2 * (l0.length : Int)) = false := decide_eq_false (by omega)
        obtain ⟨Ag, cg, rfl⟩ := HST.out.g.slice
        obtain ⟨Aw, cw, rfl⟩ := HST.out.v.slice
        have hsv := HST.out.several none 0 [] (fun W' _ => Kd.C_nil _ _) (by decide) (fun y hy => by cases hy)
        go_wp2_with fail
        go_at_call 42
        refine hsv.mono ?_
        rintro e w4 ⟨Ai', At', ci', ct', vals', xss', tvs', rfl, hct, hlj, hst4, hk4, hm4⟩
        have HST4 := Aside0.mk hst4
        clear hst4 hk4 hm4 hsv HST hlj hct
        go_wp2_with fail
        go_loopw [10] (fun i W => ∃ (j : Nat), i = .int .i64 j ∧ j ≤ gs.length ∧ Aside0 (JSt w W (.slice Ai' vals'.length ci') (.slice At' tvs'.length ct') vals' xss' tvs' (.slice Ag gs.length cg) gs (.slice Aw gs.length cw) gs)) (fun i _ => gs.length - (intOf i).toNat)
        case atStart => exact ⟨0, rfl, by omega, HST4⟩
        case round =>
          obtain ⟨j, rfl, hj, HST⟩ := hrel
          clear HST4
          by_cases hjl : j < gs.length
          · obtain ⟨g1, cap1, B1, e1, k1, k2, k3, k4, k5⟩ := HST.out.g.get j hjl
            obtain ⟨g2, cap2, B2, e2, m1, m2, m3, m4, m5⟩ := HST.out.v.get j hjl
            injection k1 with k1 _ k1'
            injection m1 with m1 _ m1'
            subst k1; subst k1'; subst m1; subst m1'
            have hgl := HGS.out.2 gs[j] (List.getElem_mem hjl)
            have hj60 : gs.length ≤ 60 := by have := HGS.out.1; omega
            generalize gs[j] = G at *
            have hsm := fun nd => postbaglaw4_same.calls 5000 B1 e1 G B2 e2 G true (wr.drewN nd) (Kd.C_drewN (Safe.now k5) nd) k4 (Kd.C_drewN (Safe.now m5) nd) m4 (by rw [same_f G G (by omega) 5000 (by omega), decide_eq_true rfl])
            have HSM := Aside0.mk hsm
            clear k5 m5 hsm k4 m4
            have i1 : (0 : Int) ≤ (j : Int) := by omega
            have i2 : (j : Int) < (gs.length : Int) := by omega
            go_wp2_with fail
            go_quiet ((go_at_call 26; exact Calls.quiet_of ((HSM.out _).mono (fun _ _ h => ⟨h.1, h.2.out⟩))))
            go_wp2
            exact ⟨⟨j + 1, by go_num, by omega, Aside0.mk (HST.out.drewN nq)⟩, by simp [intOf]; omega⟩
          · have d2 : decide ((j : Int) < (gs.length : Int)) = false := decide_eq_false (by omega)
            have hL4 := laid_below HL_.out HST.out.bl
            have HB := Aside0.mk HST.out.bl
            go_wp2_with fail
            go_at_call 20
            refine (postbaglaw4_known.calls 50 true wr known_50 hL4).mono ?_
            rintro e w3 ⟨rfl, hb3⟩
            have HB3 := Aside0.mk (below_step HB.out hb3)
            clear hb3 hL4
            go_wp2_with fail
            go_ret
            exact ⟨rfl, HB3.out⟩
end Go.Proofs.YtidcchopmbodkaaDoor.Sp
end
section
namespace Go.Proofs.YtidcchopmbodkaaDoor.Pure
open Go.Proofs.YtidcchopmbodkaaDoor.Sp
theorem sizesL : Tryd.prog.bytesOf 28 = 16 ∧ Tryd.prog.bytesOf 3 = 8 ∧ Tryd.prog.bytesOf 23 = 24 ∧ Tryd.prog.bytesOf 38 = 104 := ⟨by kernel_rfl, by kernel_rfl, by kernel_rfl, by kernel_rfl⟩
def GoodL (x : S38) : Prop := x.f0.size ≤ 140737488351232 ∧ ((∀ y ∈ x.f1, (Lit.int .i64 y.f0).wf = true ∧ (Lit.int .i64 y.f1).wf = true) ∧ x.f1.length * Tryd.prog.bytesOf 28 ≤ 140737488351232) ∧ (Lit.int .i64 x.f2).wf = true ∧ (Lit.int .i64 x.f3).wf = true ∧
  ((∀ y ∈ x.f4, (Lit.int .i64 y).wf = true) ∧ x.f4.length * Tryd.prog.bytesOf 3 ≤ 140737488351232) ∧ ((∀ y ∈ x.f5, (∀ z ∈ y, (Lit.int .i64 z.f0).wf = true ∧ (Lit.int .i64 z.f1).wf = true) ∧ y.length * Tryd.prog.bytesOf 28 ≤ 140737488351232) ∧ x.f5.length * Tryd.prog.bytesOf 23 ≤ 140737488351232)
theorem fits_ofL {l : List S38} (h : ∀ x ∈ l, GoodL x) : FitsL l := by
  obtain ⟨s1, s2, s3, _⟩ := sizesL
  intro x hx
  obtain ⟨_, ⟨_, h1⟩, _, _, ⟨_, h4⟩, ⟨h5, h6⟩⟩ := h x hx
  rw [s1] at h1
  rw [s2] at h4
  rw [s3] at h6
  refine ⟨by omega, by omega, by omega, fun y hy => ?_⟩
  have := (h5 y hy).2
  rw [s1] at this
  omega
theorem asked_true (l : List S38) (h : (∀ x ∈ l, GoodL x) ∧ l.length * Tryd.prog.bytesOf 38 ≤ 140737488351232) : askedL l = some true := by
  unfold askedL
  exact if_pos ⟨fits_ofL h.1, by have := h.2; rw [sizesL.2.2.2] at this; omega⟩
end Go.Proofs.YtidcchopmbodkaaDoor.Pure
end
section
namespace Go.Proofs.YtidcchopmbodkaaDoor.Pure
open Go.Proofs.YtidcchopmbodkaaDoor.Sp
theorem SpanJoins (l : List S38) (h : (∀ x ∈ l, GoodL x) ∧ l.length * Tryd.prog.bytesOf 38 ≤ 140737488351232) : ∃ k, postbaglaw4_SpanJoins.f k l = some true := ⟨0, asked_true l h⟩
end Go.Proofs.YtidcchopmbodkaaDoor.Pure
end
section
namespace Go.Proofs.YtidcchopmbodkaaDoor.Sp
open Go.ChangeShapes Go.WideShapes Go.ChangeAt Go.RowKit
theorem gPow : Tryd.prog.globalNamed "internal/strconv.uint64pow10" = some 1 := by kernel_rfl
theorem tPow : (Tryd.prog.globals[1]?).map (·.type) = some 134 := by kernel_rfl
theorem door_met (os : Os) (args : Array Value) : laidMetH Tryd.prog [("math/bits.deBruijn32tab", Rows.laid_math_bits_deBruijn32tab), ("math/bits.deBruijn64tab", Rows.laid_math_bits_deBruijn64tab), ("internal/strconv.uint64pow10", Rows.laid_internal_strconv_uint64pow10)] ((World.doorLaid Tryd.prog 400 os).forCall (fun _ _ => 0) ⟨#[], args, []⟩).memory :=
  laidMetH_of_parts3 (fuel := 8) (laidMet_of_run' 8 (by kernel_rfl) (by kernel_rfl)) (by kernel_rfl) (by kernel_rfl)
theorem pow_data {H : Type} : (Rows.laid_internal_strconv_uint64pow10 : DataW H) = Lib.tabData .u64 Lib.pow10Tab := by kernel_rfl
theorem of_laid {W : World} (h : laidMetH Tryd.prog [("math/bits.deBruijn32tab", Rows.laid_math_bits_deBruijn32tab), ("math/bits.deBruijn64tab", Rows.laid_math_bits_deBruijn64tab), ("internal/strconv.uint64pow10", Rows.laid_internal_strconv_uint64pow10)] W) : Laid W := by
  rw [MakeChecks.laidMetH_plain _ _ _ (by kernel_rfl)] at h
  obtain ⟨ps, h1, _, _⟩ := h
  obtain ⟨_, _, _, _, _, _, _, _, _, _, h1, _⟩ := h1
  obtain ⟨_, _, _, _, _, _, _, _, _, _, h1, _⟩ := h1
  obtain ⟨g1, t1, cs1, f1, p1, q1, hg1, ht1, hv1, hd1, _, _⟩ := h1
  obtain rfl := Option.some.inj (gPow.symm.trans hg1)
  obtain rfl := Option.some.inj (tPow.symm.trans ht1)
  rw [pow_data] at hd1
  exact ⟨by unfold Lib.TabIs; rw [hv1, ← Lib.cells_of_tab Tryd.underlying134 Tryd.underlying113 (by kernel_rfl) (by kernel_rfl) hd1]⟩
end Go.Proofs.YtidcchopmbodkaaDoor.Sp
end
