import Derived.Test.YtidcchopmbodkaaDoorQo7
import Derived.Test.YtidcchopmbodkaaDoorQo3
import Derived.Test.YtidcchopmbodkaaDoorQo2
import Derived.Laws.Tables
import Derived.Test.YtidcchopmbodkaaDoorQo6
import Derived.Test.YtidcchopmbodkaaDoorQo5
import Derived.Test.YtidcchopmbodkaaDoorRows
import Derived.ProofKit
import Derived.LaidMore
import Derived.OpenShut
import Derived.Stop.Joined
import Derived.Lib.LaidTab
section
namespace Go.Proofs.YtidcchopmbodkaaDoor.Sp
open Go.RowKit Go.Proofs.YtidcchopmbodkaaDoorW.PrintWords Go.Proofs.YtidcchopmbodkaaDoorW.PrintLast Go.Proofs.YtidcchopmbodkaaDoorW.PrintMore
theorem known_50 : postbaglaw4_known.f 50 = some true := by kernel_rfl
end Go.Proofs.YtidcchopmbodkaaDoor.Sp
end
section
namespace Go.Proofs.YtidcchopmbodkaaDoor.Sp
open Go.RowKit Go.Proofs.YtidcchopmbodkaaDoorW.PrintWords
theorem store_new {P : Program} {ops : Array Oper} {rest : List Oper} {o : Oper} {a : Act} {W0 : World} {Q : Exit → Act → World → Prop} (ty : TypeId) (p : Tmp) (y : Operand) (ho : o.op = .store ty (.tmp p) y) (hgd : o.guard = none) (hd : o.dst = none)
    (t : TypeId) (old cells : Array Value) (hx : a.eval (.tmp p) = .pointer (some ⟨W0.heap.size, 0, none⟩)) (hy : a.eval y = .agg cells) (hi : (P.info? ty).map (·.size) = some cells.size)
    (hold : old.size = cells.size) (h1 : cells.all (·.oneCell') = true)
    (h : ∀ w1, Below W0.heap.size W0 w1 → w1.heap.size = W0.heap.size + 1 → w1.heap[W0.heap.size]? = some (.cells cells t (0, 0)) → wpList P ops Q rest a w1) : wpList P ops Q (o :: rest) a (W0.alloc (.cells old t (0, 0))) := by
  refine wpList_store_row hgd ty (.tmp p) y ho W0.heap.size cells hx hy t old (heap_alloc_new _ _) hi hold h1 ?_
  rw [hd]
  have hb : Below W0.heap.size W0 (W0.alloc (.cells old t (0, 0))) := below_alloc (Below.refl _ _) _
  refine h _ ⟨rfl, rfl, rfl, by simp [World.setRow], fun k hk => ?_⟩ (by simp [World.setRow]) ?_
  · rw [setRow_other _ _ _ _ (by omega)]
    exact hb.block k hk
  · exact setRow_heap _ _ _ _ _ _ (heap_alloc_new _ _)
end Go.Proofs.YtidcchopmbodkaaDoor.Sp
end
section
namespace Go.Proofs.YtidcchopmbodkaaDoor.Sp
open Go.RowKit Go.Proofs.YtidcchopmbodkaaDoorW.PrintWords Go.Proofs.YtidcchopmbodkaaDoorW.PrintLast Go.Proofs.YtidcchopmbodkaaDoorW.PrintMore
open Classical in
noncomputable def askedL (l : List S38) : Option Bool := if FitsL l ∧ l.length ≤ 8796093022208 then some true else none
theorem askedL_some {l : List S38} {r : Bool} (h : askedL l = some r) : FitsL l ∧ l.length ≤ 8796093022208 ∧ r = true := by
  unfold askedL at h
  split at h
  · rename_i hh
    exact ⟨hh.1, hh.2, (Option.some.inj h).symm⟩
  · cases h
theorem heap28 : Kd.Heap k28 := Kd.heap_iso _ (Kd.heap_pair (Kd.heap_int _) (Kd.heap_int _))
theorem size38 : (Tryd.prog.info? 38).map (·.size) = some 6 := by kernel_rfl
end Go.Proofs.YtidcchopmbodkaaDoor.Sp
end
section
namespace Go.Proofs.YtidcchopmbodkaaDoor.Sp
open Go.RowKit Go.Proofs.YtidcchopmbodkaaDoorW.PrintWords Go.Proofs.YtidcchopmbodkaaDoorW.PrintLast Go.Proofs.YtidcchopmbodkaaDoorW.PrintMore
set_option linter.unusedSimpArgs false
noncomputable def postbaglaw4_SpanHolds.f (_k : Nat) (l : List S38) : Option Bool := askedL l
set_option maxHeartbeats 4000000 in
set_option maxRecDepth 100000 in
theorem postbaglaw4_SpanHolds.calls (k : Nat) (A0 : Option Addr) (c0 : Nat) (l0 : List (S38)) (r : Bool) (w : World) (hr0 : Kd.C k38 w A0 l0.length l0) (hc0 : l0.length ≤ c0) (h : postbaglaw4_SpanHolds.f k l0 = some r) (hL_ : Laid w) :
  Calls Tryd.prog 7 #[.slice A0 l0.length c0] w fun e w' => e = .returned (.bool r) ∧ Below w.heap.size w w' := by
  obtain ⟨hf, hl, rfl⟩ := askedL_some h
  clear h
  obtain ⟨kl, b, hlong, hsh⟩ := longS_f l0 hf hl
  have hlc := postbaglaw4_long.calls kl A0 c0 l0 b w hr0 hc0 hlong
  have HL_ := Aside0.mk hL_
  have HR0 := Aside0.mk hr0
  clear hlong hf hL_ hr0
  cases b with
  | true =>
    clear hsh
    go_enter Tryd.func7, Tryd.ntmps7
    go_wp2_with (go_at_call 21; refine hlc.mono ?_; rintro e w' ⟨rfl, ⟨nd, rfl⟩⟩)
    go_ret
    exact ⟨rfl, pw_below_drewN (Below.refl _ _) _⟩
  | false =>
    replace hsh := hsh rfl
    obtain ⟨hn30, hsh⟩ := hsh
    have HSH := Lib.hid hsh
    clear hsh
    go_enter Tryd.func7, Tryd.ntmps7
    go_wp2_with (go_at_call 21; refine hlc.mono ?_; rintro e w' ⟨rfl, ⟨nd, rfl⟩⟩)
    clear hlc
    have HST0 : Aside0 (LSt k28 23 w ((w.drewN nd).alloc (.cells #[.slice none 0 0, .slice none 0 0, .slice none 0 0, .slice none 0 0] 55)) none 0 [] none 0 [] (.slice none 0 0) [] (.slice none 0 0) []) :=
      ⟨⟨by decide, by decide, blk_new (w.drewN nd) _, Kd.R_nil _ _ _ _ _, Kd.R_nil _ _ _ _ _, LS.nil _ _ _ _ _, LS.nil _ _ _ _ _, fun k hk => by simp [Value.ownBlock] at hk, below_alloc (pw_below_drewN (Below.refl w.heap.size w) nd) _⟩⟩
    go_loopw [4] (fun i W => ∃ (q : Nat) (A6 : Option Addr) (c6 : Nat) (xs : List S28), i = .int .i64 q ∧ q ≤ 2 * l0.length ∧ Aside0 (LSt k28 23 w W A6 c6 xs none 0 [] (.slice none 0 0) [] (.slice none 0 0) [])) (fun i _ => 2 * l0.length - (intOf i).toNat)
    case atStart => exact ⟨0, none, 0, [], rfl, by omega, HST0⟩
    case round =>
      obtain ⟨q, A6, c6, xs, rfl, hq, HST⟩ := hrel
      clear HST0
      by_cases hlt : q < 2 * l0.length
      · have d1 : decide ((q : Int) < 2 * (l0.length : Int)) = true := decide_eq_true (by omega)
        obtain ⟨ht, htl⟩ := turnL_f q l0.length hn30 hlt
        have HT := Lib.hid ht
        clear ht
        generalize turnL q l0.length = t at *
        have p1 : (0 : Int) ≤ (t : Int) := by omega
        have p2 : (t : Int) < (l0.length : Int) := by omega
        obtain ⟨ad, A1, c1, A4, c4, A5, c5, e0, x0, x1, x2, x3, x4, x5, hc1, hC1, hc4, hC4, hc5, hC5⟩ := at_T38 HR0.out (t : Int) p1 p2
        subst e0
        rw [rd38L_at l0 t htl] at *
        have hs := HSH.out l0[t] (List.getElem_mem htl)
        generalize l0[t] = x at *
        rw [Int.toNat_natCast] at x0 x1 x2 x3 x4 x5
        replace x0 := (HST.out.bl.cell (World.block_lt_of_cell? w _ x0)).trans x0
        replace x1 := (HST.out.bl.cell (World.block_lt_of_cell? w _ x1)).trans x1
        replace x2 := (HST.out.bl.cell (World.block_lt_of_cell? w _ x2)).trans x2
        replace x3 := (HST.out.bl.cell (World.block_lt_of_cell? w _ x3)).trans x3
        replace x4 := (HST.out.bl.cell (World.block_lt_of_cell? w _ x4)).trans x4
        replace x5 := (HST.out.bl.cell (World.block_lt_of_cell? w _ x5)).trans x5
        have HS := Lib.hid hs
        have HC1 := Aside0.mk hC1
        have HD := Lib.hid hc1
        clear hC1 hC4 hC5 hc1 hc4 hc5 hs
        go_wp2_with (first | (go_at_call 22; refine (postbaglaw4_turn.calls (q : Int) (l0.length : Int) (t : Int) _ HT.out).mono ?_; rintro e w' ⟨rfl, ⟨nd, rfl⟩⟩) | ((with_reducible refine gate_store (t := 38) (p := 5) rfl ?_); refine store_new 38 5 _ rfl rfl rfl 38 _ #[.string x.f0, .slice A1 x.f1.length c1, .int .i64 x.f2, .int .i64 x.f3, .slice A4 x.f4.length c4, .slice A5 x.f5.length c5] rfl rfl size38 rfl (by simp [Value.oneCell']) ?_; intro w2 hb2 hs2 hn2; clear x0 x1 x2 x3 x4 x5; have HST2 := Aside0.mk ((HST.out.drewN nd).below hb2); have HN2 : Aside0 (w2.heap[wr.heap.size]? = _) := ⟨hn2⟩; have y1 : w2.cell? ⟨wr.heap.size, 1, none⟩ = some (.slice A1 x.f1.length c1) := blk_cell hn2 1; have y2 : w2.cell? ⟨wr.heap.size, 2, none⟩ = some (.int .i64 x.f2) := blk_cell hn2 2; have y3 : w2.cell? ⟨wr.heap.size, 3, none⟩ = some (.int .i64 x.f3) := blk_cell hn2 3; clear hb2 hs2 hn2 HST))
        have hx1 : x.f1.length ≤ 3000 := HS.out.1
        have hrl := rhas_f x.f1 (by omega) x.f2 x.f3 5000 (by omega)
        have hpl := has_f x.f1 x.f2 x.f3
        generalize hasB x.f1 x.f2 x.f3 = bb at *
        have HPL := Lib.hid hpl
        have HRL := Lib.hid hrl
        have hbs := LM.base HST2.out
        have HX := Aside0.mk (Safe.blk HN2.out (M := LM w (.slice A6 xs.length c6) (.slice none 0 0) (.slice none 0 0) (.slice none 0 0)) (HST2.out.apart HN2.out (by decide) (by decide) (by decide) (by decide)))
        have HJ := Aside0.mk (Safe.came heap28 HC1.out HST2.out.bl (M := LM w (.slice A6 xs.length c6) (.slice none 0 0) (.slice none 0 0) (.slice none 0 0)) (fun k hk => (hbs k hk).1))
        have HST := HST2
        clear hrl hpl hbs HST2 HN2
        go_cut [52] (fun v52 wc => v52 = .bool false ∧ ∃ (A7 : Option Addr) (c7 n7 : Nat), Aside0 (LSt k28 23 w wc A7 c7 (layA n7 x.f1) none 0 [] (.slice none 0 0) [] (.slice none 0 0) []))
        case first =>
          refine wp_region_held_drew (S := (fun w' => w'.cell? ⟨wr.heap.size, 1, none⟩ = some (.slice A1 x.f1.length c1) ∧ w'.cell? ⟨wr.heap.size, 2, none⟩ = some (.int .i64 x.f2) ∧ w'.cell? ⟨wr.heap.size, 3, none⟩ = some (.int .i64 x.f3))) (by kernel_rfl) ?_ (fun hHeld => ?_)
          · simp [*]
          refine wpAnyH_take (i := 0) (v := ?_) (by simp only [List.getElem?_toArray, List.getElem?_cons_succ, List.getElem?_cons_zero]; rfl) (by kernel_rfl) (by kernel_rfl) (by kernel_rfl) (by exact fun _ _ _ h => h) (Or.inl ⟨by rfl, ?_⟩) (by assumption) ?_
          rotate_left
          · intro w hSw
            (try dsimp only at hSw)
            go_simp
            try with_reducible rfl
          (try simp only [Act.put, List.setIfInBounds_toArray, List.set_cons_zero, List.set_cons_succ])
          refine wpAnyH_take (i := 1) (v := ?_) (by simp only [List.getElem?_toArray, List.getElem?_cons_succ, List.getElem?_cons_zero]; rfl) (by kernel_rfl) (by kernel_rfl) (by kernel_rfl) (by exact fun _ _ _ h => h) (Or.inl ⟨by rfl, ?_⟩) (by assumption) ?_
          rotate_left
          · intro w hSw
            (try dsimp only at hSw)
            go_simp
            try with_reducible rfl
          (try simp only [Act.put, List.setIfInBounds_toArray, List.set_cons_zero, List.set_cons_succ])
          refine wpAnyH_take (i := 2) (v := ?_) (by simp only [List.getElem?_toArray, List.getElem?_cons_succ, List.getElem?_cons_zero]; rfl) (by kernel_rfl) (by kernel_rfl) (by kernel_rfl) (by exact fun _ _ _ h => h) (Or.inl ⟨by rfl, ?_⟩) (by assumption) ?_
          rotate_left
          · intro w hSw
            (try dsimp only at hSw)
            go_simp
            try with_reducible rfl
          (try simp only [Act.put, List.setIfInBounds_toArray, List.set_cons_zero, List.set_cons_succ])
          refine wpAnyH_take (i := 4) (v := ?_) (by simp only [List.getElem?_toArray, List.getElem?_cons_succ, List.getElem?_cons_zero]; rfl) (by kernel_rfl) (by kernel_rfl) (by kernel_rfl) (by exact fun _ _ _ h => h) (Or.inl ⟨by rfl, ?_⟩) (by assumption) ?_
          rotate_left
          · intro w hSw
            (try dsimp only at hSw)
            go_simp
            try with_reducible rfl
          (try simp only [Act.put, List.setIfInBounds_toArray, List.set_cons_zero, List.set_cons_succ])
          refine wpAnyH_take (i := 5) (v := ?_) (by simp only [List.getElem?_toArray, List.getElem?_cons_succ, List.getElem?_cons_zero]; rfl) (by kernel_rfl) (by kernel_rfl) (by kernel_rfl) (by exact fun _ _ _ h => h) (Or.inl ⟨by rfl, ?_⟩) (by assumption) ?_
          rotate_left
          · intro w hSw
            (try dsimp only at hSw)
            go_simp
            try with_reducible rfl
          (try simp only [Act.put, List.setIfInBounds_toArray, List.set_cons_zero, List.set_cons_succ])
          refine wpAnyH_take (i := 6) (v := ?_) (by simp only [List.getElem?_toArray, List.getElem?_cons_succ, List.getElem?_cons_zero]; rfl) (by kernel_rfl) (by kernel_rfl) (by kernel_rfl) (by exact fun _ _ _ h => h) (Or.inl ⟨by rfl, ?_⟩) (by assumption) ?_
          rotate_left
          · intro w hSw
            (try dsimp only at hSw)
            go_simp
            try with_reducible rfl
          (try simp only [Act.put, List.setIfInBounds_toArray, List.set_cons_zero, List.set_cons_succ])
          refine wpAnyH_take (i := 7) (v := ?_) (by simp only [List.getElem?_toArray, List.getElem?_cons_succ, List.getElem?_cons_zero]; rfl) (by kernel_rfl) (by kernel_rfl) (by kernel_rfl) (by exact fun _ _ _ h => h) (Or.inl ⟨by rfl, ?_⟩) (by assumption) ?_
          rotate_left
          · intro w hSw
            (try dsimp only at hSw)
            go_simp
            try with_reducible rfl
          (try simp only [Act.put, List.setIfInBounds_toArray, List.set_cons_zero, List.set_cons_succ])
          refine wpAnyH_take (i := 9) (v := ?_) (by simp only [List.getElem?_toArray, List.getElem?_cons_succ, List.getElem?_cons_zero]; rfl) (by kernel_rfl) (by kernel_rfl) (by kernel_rfl) (by exact fun _ _ _ h => h) (Or.inl ⟨by rfl, ?_⟩) (by assumption) ?_
          rotate_left
          · intro w hSw
            (try dsimp only at hSw)
            go_simp
            try with_reducible rfl
          (try simp only [Act.put, List.setIfInBounds_toArray, List.set_cons_zero, List.set_cons_succ])
          refine wpAnyH_take (i := 10) (v := ?_) (by simp only [List.getElem?_toArray, List.getElem?_cons_succ, List.getElem?_cons_zero]; rfl) (by kernel_rfl) (by kernel_rfl) (by kernel_rfl) (by exact fun _ _ _ h => h) (Or.inl ⟨by rfl, ?_⟩) (by assumption) ?_
          rotate_left
          · intro w hSw
            (try dsimp only at hSw)
            go_simp
            try with_reducible rfl
          (try simp only [Act.put, List.setIfInBounds_toArray, List.set_cons_zero, List.set_cons_succ])
          refine wpAnyH_take (i := 11) (v := ?_) (by simp only [List.getElem?_toArray, List.getElem?_cons_succ, List.getElem?_cons_zero]; rfl) (by kernel_rfl) (by kernel_rfl) (by kernel_rfl) (by exact fun _ _ _ h => h) (Or.inl ⟨by rfl, ?_⟩) (by assumption) ?_
          rotate_left
          · intro w hSw
            (try dsimp only at hSw)
            go_simp
            try with_reducible rfl
          (try simp only [Act.put, List.setIfInBounds_toArray, List.set_cons_zero, List.set_cons_succ])
          refine wpAnyH_take (i := 12) (v := ?_) (by simp only [List.getElem?_toArray, List.getElem?_cons_succ, List.getElem?_cons_zero]; rfl) (by kernel_rfl) (by kernel_rfl) (by kernel_rfl) (by exact fun _ _ _ h => h) (Or.inl ⟨by rfl, ?_⟩) (by assumption) ?_
          rotate_left
          · intro w hSw
            (try dsimp only at hSw)
            go_simp
            try with_reducible rfl
          (try simp only [Act.put, List.setIfInBounds_toArray, List.set_cons_zero, List.set_cons_succ])
          refine wpAnyH_take (i := 13) (v := ?_) (by simp only [List.getElem?_toArray, List.getElem?_cons_succ, List.getElem?_cons_zero]; rfl) (by kernel_rfl) (by kernel_rfl) (by kernel_rfl) (by exact fun _ _ _ h => h) (Or.inl ⟨by rfl, ?_⟩) (by assumption) ?_
          rotate_left
          · intro w hSw
            (try dsimp only at hSw)
            go_simp
            try with_reducible rfl
          (try simp only [Act.put, List.setIfInBounds_toArray, List.set_cons_zero, List.set_cons_succ])
          refine wpAnyH_take (i := 14) (v := ?_) (by simp only [List.getElem?_toArray, List.getElem?_cons_succ, List.getElem?_cons_zero]; rfl) (by kernel_rfl) (by kernel_rfl) (by kernel_rfl) (by exact fun _ _ _ h => h) (Or.inl ⟨by rfl, ?_⟩) (by assumption) ?_
          rotate_left
          · intro w hSw
            (try dsimp only at hSw)
            go_simp
            try with_reducible rfl
          (try simp only [Act.put, List.setIfInBounds_toArray, List.set_cons_zero, List.set_cons_succ])
          refine wpAnyH_ready (rs := [3]) (by kernel_rfl) (by simp) ?_
          refine AllReadyH.cons (by simp only [List.getElem?_toArray, List.getElem?_cons_succ, List.getElem?_cons_zero]; rfl) (fun K hK => ?_) AllReadyH.nil
          go_simp
          go_at_call 37; (refine (LSt.ranges (by first | exact HST.out | exact HST.out.drew | exact HST.out.drew.drew | exact (HST.out.drewN _)) (by decide) A1 c1 x.f1 (by first | exact HJ.out | exact HJ.out.drew | exact HJ.out.drew.drew | exact (HJ.out.drewN _)) hx1).mono ?_); rintro e wa ⟨A7, c7, n7, rfl, hc7, hl7, hn7, hst, hk, hm⟩; have HST_ := Aside0.mk hst; (first | have HX_ := Aside0.mk (Safe.step HX.out hk (fun _ h => h) hm) | have HX_ := Aside0.mk (Safe.step HX.out.drew hk (fun _ h => h) hm) | have HX_ := Aside0.mk (Safe.step HX.out.drew.drew hk (fun _ h => h) hm) | have HX_ := Aside0.mk (Safe.step (HX.out.drewN _) hk (fun _ h => h) hm)); (first | have HJ_ := Aside0.mk (Safe.step HJ.out hk (fun _ h => h) hm) | have HJ_ := Aside0.mk (Safe.step HJ.out.drew hk (fun _ h => h) hm) | have HJ_ := Aside0.mk (Safe.step HJ.out.drew.drew hk (fun _ h => h) hm) | have HJ_ := Aside0.mk (Safe.step (HJ.out.drewN _) hk (fun _ h => h) hm)); clear hst hk hm; clear HST HX HJ; have HST := HST_; have HX := HX_; have HJ := HJ_; clear HST_ HX_ HJ_; have y1' : wa.cell? ⟨wr.heap.size, 1, none⟩ = some (.slice A1 x.f1.length c1) := blk_cell (Safe.now HX.out) 1; have y2' : wa.cell? ⟨wr.heap.size, 2, none⟩ = some (.int .i64 x.f2) := blk_cell (Safe.now HX.out) 2; have y3' : wa.cell? ⟨wr.heap.size, 3, none⟩ = some (.int .i64 x.f3) := blk_cell (Safe.now HX.out) 3; clear y1 y2 y3; have y1 := y1'; have y2 := y2'; have y3 := y3'; clear y1' y2' y3'; (try (have y0' : wa.cell? ⟨w.heap.size, 0, none⟩ = some (.slice A7 (layA n7 x.f1).length c7) := blk_cell HST.out.hp 0; (try clear y0); have y0 := y0'; clear y0')); have HHL := Lib.hid (layA_len n7 x.f1 hl7)
          refine hK.out _ _ ?_ (fun hHeld2 => ?_)
          · (try dsimp only)
            exact ⟨by first | exact y1 | simp [*], by first | exact y2 | simp [*], by first | exact y3 | simp [*]⟩
          clear hK K hHeld
          have hHeld := hHeld2
          clear hHeld2
          (try simp only [Act.put, List.setIfInBounds_toArray, List.set_cons_zero, List.set_cons_succ])
          refine wpAnyH_ready (rs := [8]) (by kernel_rfl) (by simp) ?_
          refine AllReadyH.cons (by simp only [List.getElem?_toArray, List.getElem?_cons_succ, List.getElem?_cons_zero]; rfl) (fun K hK => ?_) AllReadyH.nil
          go_simp
          go_at_call 17; (refine (span_Has.calls A7 c7 x.f1 x.f2 x.f3 bb _ (by first | exact (HST.out.laid hl7).1 | exact (HST.out.drew.laid hl7).1 | exact (HST.out.drew.drew.laid hl7).1) hc7 HPL.out).mono ?_); rintro e wb ⟨rfl, hb⟩; (first | have HST_ := Aside0.mk (HST.out.below hb) | have HST_ := Aside0.mk (HST.out.drew.below hb) | have HST_ := Aside0.mk (HST.out.drew.drew.below hb) | have HST_ := Aside0.mk ((HST.out.drewN _).below hb)); (first | have HX_ := Aside0.mk (HX.out.below hb) | have HX_ := Aside0.mk (HX.out.drew.below hb) | have HX_ := Aside0.mk (HX.out.drew.drew.below hb) | have HX_ := Aside0.mk ((HX.out.drewN _).below hb)); (first | have HJ_ := Aside0.mk (HJ.out.below hb) | have HJ_ := Aside0.mk (HJ.out.drew.below hb) | have HJ_ := Aside0.mk (HJ.out.drew.drew.below hb) | have HJ_ := Aside0.mk ((HJ.out.drewN _).below hb)); clear hb; clear HST HX HJ; have HST := HST_; have HX := HX_; have HJ := HJ_; clear HST_ HX_ HJ_; have y1' : wb.cell? ⟨wr.heap.size, 1, none⟩ = some (.slice A1 x.f1.length c1) := blk_cell (Safe.now HX.out) 1; have y2' : wb.cell? ⟨wr.heap.size, 2, none⟩ = some (.int .i64 x.f2) := blk_cell (Safe.now HX.out) 2; have y3' : wb.cell? ⟨wr.heap.size, 3, none⟩ = some (.int .i64 x.f3) := blk_cell (Safe.now HX.out) 3; clear y1 y2 y3; have y1 := y1'; have y2 := y2'; have y3 := y3'; clear y1' y2' y3'; (try (have y0' : wb.cell? ⟨w.heap.size, 0, none⟩ = some (.slice A7 (layA n7 x.f1).length c7) := blk_cell HST.out.hp 0; (try clear y0); have y0 := y0'; clear y0'))
          refine hK.out _ _ ?_ (fun hHeld2 => ?_)
          · (try dsimp only)
            exact ⟨by first | exact y1 | simp [*], by first | exact y2 | simp [*], by first | exact y3 | simp [*]⟩
          clear hK K hHeld
          have hHeld := hHeld2
          clear hHeld2
          (try simp only [Act.put, List.setIfInBounds_toArray, List.set_cons_zero, List.set_cons_succ])
          refine wpAnyH_ready (rs := [15]) (by kernel_rfl) (by simp) ?_
          refine AllReadyH.cons (by simp only [List.getElem?_toArray, List.getElem?_cons_succ, List.getElem?_cons_zero]; rfl) (fun K hK => ?_) AllReadyH.nil
          go_simp
          go_at_call 39; (refine (postbagref4_Has.calls 5000 A1 c1 x.f1 x.f2 x.f3 bb _ (by first | exact (Safe.now HJ.out) | exact (Safe.now HJ.out.drew) | exact (Safe.now HJ.out.drew.drew)) HD.out HRL.out).mono ?_); rintro e wd ⟨rfl, hb⟩; (first | have HST_ := Aside0.mk (HST.out.below hb) | have HST_ := Aside0.mk (HST.out.drew.below hb) | have HST_ := Aside0.mk (HST.out.drew.drew.below hb) | have HST_ := Aside0.mk ((HST.out.drewN _).below hb)); (first | have HX_ := Aside0.mk (HX.out.below hb) | have HX_ := Aside0.mk (HX.out.drew.below hb) | have HX_ := Aside0.mk (HX.out.drew.drew.below hb) | have HX_ := Aside0.mk ((HX.out.drewN _).below hb)); (first | have HJ_ := Aside0.mk (HJ.out.below hb) | have HJ_ := Aside0.mk (HJ.out.drew.below hb) | have HJ_ := Aside0.mk (HJ.out.drew.drew.below hb) | have HJ_ := Aside0.mk ((HJ.out.drewN _).below hb)); clear hb; clear HST HX HJ; have HST := HST_; have HX := HX_; have HJ := HJ_; clear HST_ HX_ HJ_; have y1' : wd.cell? ⟨wr.heap.size, 1, none⟩ = some (.slice A1 x.f1.length c1) := blk_cell (Safe.now HX.out) 1; have y2' : wd.cell? ⟨wr.heap.size, 2, none⟩ = some (.int .i64 x.f2) := blk_cell (Safe.now HX.out) 2; have y3' : wd.cell? ⟨wr.heap.size, 3, none⟩ = some (.int .i64 x.f3) := blk_cell (Safe.now HX.out) 3; clear y1 y2 y3; have y1 := y1'; have y2 := y2'; have y3 := y3'; clear y1' y2' y3'; (try (have y0' : wd.cell? ⟨w.heap.size, 0, none⟩ = some (.slice A7 (layA n7 x.f1).length c7) := blk_cell HST.out.hp 0; (try clear y0); have y0 := y0'; clear y0'))
          refine hK.out _ _ ?_ (fun hHeld2 => ?_)
          · (try dsimp only)
            exact ⟨by first | exact y1 | simp [*], by first | exact y2 | simp [*], by first | exact y3 | simp [*]⟩
          clear hK K hHeld
          have hHeld := hHeld2
          clear hHeld2
          (try simp only [Act.put, List.setIfInBounds_toArray, List.set_cons_zero, List.set_cons_succ])
          refine wpAnyH_take (i := 16) (v := ?_) (by simp only [List.getElem?_toArray, List.getElem?_cons_succ, List.getElem?_cons_zero]; rfl) (by kernel_rfl) (by kernel_rfl) (by kernel_rfl) (by exact fun _ _ _ h => h) (Or.inl ⟨by rfl, ?_⟩) (by assumption) ?_
          rotate_left
          · intro w hSw
            (try dsimp only at hSw)
            go_simp
            try with_reducible rfl
          (try simp only [Act.put, List.setIfInBounds_toArray, List.set_cons_zero, List.set_cons_succ])
          refine wpAnyH_take (i := 17) (v := ?_) (by simp only [List.getElem?_toArray, List.getElem?_cons_succ, List.getElem?_cons_zero]; rfl) (by kernel_rfl) (by kernel_rfl) (by kernel_rfl) (by exact fun _ _ _ h => h) (Or.inl ⟨by rfl, ?_⟩) (by assumption) ?_
          rotate_left
          · intro w hSw
            (try dsimp only at hSw)
            go_simp
            try with_reducible rfl
          (try simp only [Act.put, List.setIfInBounds_toArray, List.set_cons_zero, List.set_cons_succ])
          refine wpAnyH_mono (S1 := (fun w' => (w'.cell? ⟨wr.heap.size, 1, none⟩ = some (.slice A1 x.f1.length c1) ∧ w'.cell? ⟨wr.heap.size, 2, none⟩ = some (.int .i64 x.f2) ∧ w'.cell? ⟨wr.heap.size, 3, none⟩ = some (.int .i64 x.f3)) ∧ w'.cell? ⟨w.heap.size, 0, none⟩ = some (.slice A7 (layA n7 x.f1).length c7))) (fun w h => h.1) _ _ _ _ ?_
          have hHeld2 : (fun w' => (w'.cell? ⟨wr.heap.size, 1, none⟩ = some (.slice A1 x.f1.length c1) ∧ w'.cell? ⟨wr.heap.size, 2, none⟩ = some (.int .i64 x.f2) ∧ w'.cell? ⟨wr.heap.size, 3, none⟩ = some (.int .i64 x.f3)) ∧ w'.cell? ⟨w.heap.size, 0, none⟩ = some (.slice A7 (layA n7 x.f1).length c7)) wd := ⟨hHeld, y0⟩
          clear hHeld
          have hHeld := hHeld2
          clear hHeld2
          refine wpAnyH_take (i := 18) (v := ?_) (by simp only [List.getElem?_toArray, List.getElem?_cons_succ, List.getElem?_cons_zero]; rfl) (by kernel_rfl) (by kernel_rfl) (by kernel_rfl) (by exact fun _ _ _ h => h) (Or.inl ⟨by rfl, ?_⟩) (by assumption) ?_
          rotate_left
          · intro w hSw
            (try dsimp only at hSw)
            go_simp
            try with_reducible rfl
          (try simp only [Act.put, List.setIfInBounds_toArray, List.set_cons_zero, List.set_cons_succ])
          refine wpAnyH_take (i := 19) (v := ?_) (by simp only [List.getElem?_toArray, List.getElem?_cons_succ, List.getElem?_cons_zero]; rfl) (by kernel_rfl) (by kernel_rfl) (by kernel_rfl) (by exact fun _ _ _ h => h) (Or.inl ⟨by rfl, ?_⟩) (by assumption) ?_
          rotate_left
          · intro w hSw
            (try dsimp only at hSw)
            go_simp
            try with_reducible rfl
          (try simp only [Act.put, List.setIfInBounds_toArray, List.set_cons_zero, List.set_cons_succ])
          refine wpAnyH_take (i := 20) (v := ?_) (by simp only [List.getElem?_toArray, List.getElem?_cons_succ, List.getElem?_cons_zero]; rfl) (by kernel_rfl) (by kernel_rfl) (by kernel_rfl) (by exact fun _ _ _ h => h) (Or.inl ⟨by rfl, ?_⟩) (by assumption) ?_
          rotate_left
          · intro w hSw
            (try dsimp only at hSw)
            go_simp
            try with_reducible rfl
          (try simp only [Act.put, List.setIfInBounds_toArray, List.set_cons_zero, List.set_cons_succ])
          refine wpAnyH_take (i := 21) (v := ?_) (by simp only [List.getElem?_toArray, List.getElem?_cons_succ, List.getElem?_cons_zero]; rfl) (by kernel_rfl) (by kernel_rfl) (by kernel_rfl) (by exact fun _ _ _ h => h) (Or.inl ⟨by rfl, ?_⟩) (by assumption) ?_
          rotate_left
          · intro w hSw
            (try dsimp only at hSw)
            go_simp
            try with_reducible rfl
          (try simp only [Act.put, List.setIfInBounds_toArray, List.set_cons_zero, List.set_cons_succ])
          refine wpAnyH_take (i := 22) (v := ?_) (by simp only [List.getElem?_toArray, List.getElem?_cons_succ, List.getElem?_cons_zero]; rfl) (by kernel_rfl) (by kernel_rfl) (by kernel_rfl) (by exact fun _ _ _ h => h) (Or.inl ⟨by rfl, ?_⟩) (by assumption) ?_
          rotate_left
          · intro w hSw
            (try dsimp only at hSw)
            go_simp
            try with_reducible rfl
          (try simp only [Act.put, List.setIfInBounds_toArray, List.set_cons_zero, List.set_cons_succ])
          refine wpAnyH_take (i := 23) (v := ?_) (by simp only [List.getElem?_toArray, List.getElem?_cons_succ, List.getElem?_cons_zero]; rfl) (by kernel_rfl) (by kernel_rfl) (by kernel_rfl) (by exact fun _ _ _ h => h) (Or.inl ⟨by rfl, ?_⟩) (by assumption) ?_
          rotate_left
          · intro w hSw
            (try dsimp only at hSw)
            go_simp
            try with_reducible rfl
          (try simp only [Act.put, List.setIfInBounds_toArray, List.set_cons_zero, List.set_cons_succ])
          refine wpAnyH_ready (rs := [24]) (by kernel_rfl) (by simp) ?_
          refine AllReadyH.cons (by simp only [List.getElem?_toArray, List.getElem?_cons_succ, List.getElem?_cons_zero]; rfl) (fun K hK => ?_) AllReadyH.nil
          go_simp
          go_at_call 38; (refine (postbaglaw4_lies.calls 7000 A7 c7 (layA n7 x.f1) A1 c1 x.f1 true _ (by first | exact (Kd.R_reads' (LSt.rx HST.out)).2.2 | exact (Kd.R_reads' (LSt.rx HST.out.drew)).2.2 | exact (Kd.R_reads' (LSt.rx HST.out.drew.drew)).2.2 | exact (Kd.R_reads' (LSt.rx (HST.out.drewN _))).2.2) (by first | exact (Kd.R_reads' (LSt.rx HST.out)).2.1 | exact (Kd.R_reads' (LSt.rx HST.out.drew)).2.1 | exact (Kd.R_reads' (LSt.rx HST.out.drew.drew)).2.1 | exact (Kd.R_reads' (LSt.rx (HST.out.drewN _))).2.1) (by first | exact (Safe.now HJ.out) | exact (Safe.now HJ.out.drew) | exact (Safe.now HJ.out.drew.drew) | exact (Safe.now (HJ.out.drewN _))) HD.out (lies_f n7 x.f1 hl7 (by omega) 7000 (by omega))).mono ?_); rintro e w' ⟨rfl, ⟨nd, rfl⟩⟩
          refine hK.out _ _ ?_ (fun hHeld2 => ?_)
          · (try dsimp only)
            exact ⟨⟨by first | exact y1 | simp [*], by first | exact y2 | simp [*], by first | exact y3 | simp [*]⟩, by first | exact y0 | simp [*]⟩
          clear hK K hHeld
          have hHeld := hHeld2
          clear hHeld2
          (try simp only [Act.put, List.setIfInBounds_toArray, List.set_cons_zero, List.set_cons_succ])
          refine wpAnyH_take (i := 25) (v := ?_) (by simp only [List.getElem?_toArray, List.getElem?_cons_succ, List.getElem?_cons_zero]; rfl) (by kernel_rfl) (by kernel_rfl) (by kernel_rfl) (by exact fun _ _ _ h => h) (Or.inl ⟨by rfl, ?_⟩) (by assumption) ?_
          rotate_left
          · intro w hSw
            (try dsimp only at hSw)
            go_simp
            try with_reducible rfl
          (try simp only [Act.put, List.setIfInBounds_toArray, List.set_cons_zero, List.set_cons_succ])
          refine wpAnyH_take (i := 26) (v := ?_) (by simp only [List.getElem?_toArray, List.getElem?_cons_succ, List.getElem?_cons_zero]; rfl) (by kernel_rfl) (by kernel_rfl) (by kernel_rfl) (by exact fun _ _ _ h => h) (Or.inl ⟨by rfl, ?_⟩) (by assumption) ?_
          rotate_left
          · intro w hSw
            (try dsimp only at hSw)
            go_simp
            try with_reducible rfl
          (try simp only [Act.put, List.setIfInBounds_toArray, List.set_cons_zero, List.set_cons_succ])
          refine wpAnyH_done (by kernel_rfl) ?_ _
          go_wp2
          go_meet
          exact ⟨rfl, A7, c7, n7, Aside0.mk (by first | exact HST.out | exact HST.out.drew | exact HST.out.drew.drew | exact (HST.out.drewN _))⟩
        case rest =>
          obtain ⟨rfl, A7, c7, n7, HST⟩ := hcut
          go_wp2
          exact ⟨⟨q + 1, A7, c7, layA n7 x.f1, by go_num, by omega, HST⟩, by simp [intOf]; omega⟩
      · have d1 : decide ((q : Int) < 2 * (l0.length : Int)) = false := decide_eq_false (by omega)
        go_wp2_with fail
        go_loopw [6] (fun i W => ∃ (p : Nat) (A6 : Option Addr) (c6 : Nat) (xs : List S28), i = .int .i64 p ∧ p ≤ l0.length ∧ Aside0 (LSt k28 23 w W A6 c6 xs none 0 [] (.slice none 0 0) [] (.slice none 0 0) [])) (fun i _ => l0.length - (intOf i).toNat)
        case atStart => exact ⟨0, A6, c6, xs, rfl, by omega, HST⟩
        case round =>
          obtain ⟨wo, rfl⟩ : ∃ wo : World, wo = wr := ⟨_, rfl⟩
          clear HST hlt hq
          obtain ⟨p, A6, c6, xs, rfl, hp, HST⟩ := hrel
          by_cases hpl : p < l0.length ∧ p < 6
          · have d2 : decide ((p : Int) < (l0.length : Int)) = true := decide_eq_true (by omega)
            have d3 : decide ((p : Int) < 6) = true := decide_eq_true (by omega)
            go_wp2_with fail
            go_loopw [7] (fun j W => ∃ (m : Nat) (A6 : Option Addr) (c6 : Nat) (xs : List S28), j = .int .i64 m ∧ m ≤ l0.length ∧ Aside0 (LSt k28 23 w W A6 c6 xs none 0 [] (.slice none 0 0) [] (.slice none 0 0) [])) (fun j _ => l0.length - (intOf j).toNat)
            case atStart => exact ⟨0, A6, c6, xs, rfl, by omega, HST⟩
            case round =>
              clear HST
              obtain ⟨m, A6, c6, xs, rfl, hm, HST⟩ := hrel
              by_cases hml : m < l0.length
              · have d4 : decide ((m : Int) < (l0.length : Int)) = true := decide_eq_true (by omega)
                have p1 : (0 : Int) ≤ (m : Int) := by omega
                have p2 : (m : Int) < (l0.length : Int) := by omega
                have p3 : (0 : Int) ≤ (p : Int) := by omega
                have p4 : (p : Int) < (l0.length : Int) := by omega
                obtain ⟨ad, A1, c1, B4, b4, B5, b5, e0, -, x1, -, -, -, -, hc1, hC1, -, -, -, -⟩ := at_T38 HR0.out (m : Int) p1 p2
                obtain ⟨ad', B1, b1, B4, b4, B5, b5, e1, -, -, z2, z3, -, -, -, -, -, -, -, -⟩ := at_T38 HR0.out (p : Int) p3 p4
                subst e0
                injection e1 with e1
                subst e1
                have hpl2 := hpl.1
                rw [rd38L_at l0 m hml] at x1 hc1 hC1
                rw [rd38L_at l0 p hpl2] at z2 z3
                have hs := HSH.out l0[m] (List.getElem_mem hml)
                generalize l0[m] = x at *
                generalize l0[p] = z at *
                rw [Int.toNat_natCast] at x1 z2 z3
                have Hy1 := Aside0.mk x1
                have Hy2 := Aside0.mk z2
                have Hy3 := Aside0.mk z3
                have y1 := (HST.out.bl.cell (World.block_lt_of_cell? w _ x1)).trans x1
                have y2 := (HST.out.bl.cell (World.block_lt_of_cell? w _ z2)).trans z2
                have y3 := (HST.out.bl.cell (World.block_lt_of_cell? w _ z3)).trans z3
                have hx1 : x.f1.length ≤ 3000 := hs.1
                have hrl := rhas_f x.f1 (by omega) z.f2 z.f3 5000 (by omega)
                have hpl3 := has_f x.f1 z.f2 z.f3
                generalize hasB x.f1 z.f2 z.f3 = bb at *
                have HPL := Lib.hid hpl3
                have HRL := Lib.hid hrl
                have HD := Lib.hid hc1
                have hbs := LM.base HST.out
                have HJ := Aside0.mk (Safe.came heap28 hC1 HST.out.bl (M := LM w (.slice A6 xs.length c6) (.slice none 0 0) (.slice none 0 0) (.slice none 0 0)) (fun k hk => (hbs k hk).1))
                clear hrl hpl3 hbs x1 z2 z3 hc1 hC1 hs
                go_wp2_with fail
                go_cut [103] (fun v103 wc => v103 = .bool false ∧ ∃ (A8 : Option Addr) (c8 n8 : Nat), Aside0 (LSt k28 23 w wc A8 c8 (layA n8 x.f1) none 0 [] (.slice none 0 0) [] (.slice none 0 0) []))
                case first =>
                  go_region_held3 (fun w' => w'.cell? ⟨(ad.add (m * 6)).block, (ad.add (m * 6)).off + 1, none⟩ = some (.slice A1 x.f1.length c1) ∧ w'.cell? ⟨(ad.add (p * 6)).block, (ad.add (p * 6)).off + 2, none⟩ = some (.int .i64 z.f2) ∧ w'.cell? ⟨(ad.add (p * 6)).block, (ad.add (p * 6)).off + 3, none⟩ = some (.int .i64 z.f3)) (exact ⟨by first | exact y1 | simp [*], by first | exact y2 | simp [*], by first | exact y3 | simp [*]⟩) ((first | (go_at_call 37; (refine (LSt.ranges (by first | exact HST.out | exact HST.out.drew | exact HST.out.drew.drew | exact (HST.out.drewN _)) (by decide) A1 c1 x.f1 (by first | exact HJ.out | exact HJ.out.drew | exact HJ.out.drew.drew | exact (HJ.out.drewN _)) hx1).mono ?_); rintro e wa ⟨A8, c8, n8, rfl, hc8, hl8, hn8, hst, hk, hm⟩; have HST_ := Aside0.mk hst; (first | have HJ_ := Aside0.mk (Safe.step HJ.out hk (fun _ h => h) hm) | have HJ_ := Aside0.mk (Safe.step HJ.out.drew hk (fun _ h => h) hm) | have HJ_ := Aside0.mk (Safe.step HJ.out.drew.drew hk (fun _ h => h) hm) | have HJ_ := Aside0.mk (Safe.step (HJ.out.drewN _) hk (fun _ h => h) hm)); clear hst hk hm; clear HST HJ; have HST := HST_; have HJ := HJ_; clear HST_ HJ_; have y1' : wa.cell? ⟨(ad.add (m * 6)).block, (ad.add (m * 6)).off + 1, none⟩ = some (.slice A1 x.f1.length c1) := (HST.out.bl.cell (World.block_lt_of_cell? w _ Hy1.out)).trans Hy1.out; have y2' : wa.cell? ⟨(ad.add (p * 6)).block, (ad.add (p * 6)).off + 2, none⟩ = some (.int .i64 z.f2) := (HST.out.bl.cell (World.block_lt_of_cell? w _ Hy2.out)).trans Hy2.out; have y3' : wa.cell? ⟨(ad.add (p * 6)).block, (ad.add (p * 6)).off + 3, none⟩ = some (.int .i64 z.f3) := (HST.out.bl.cell (World.block_lt_of_cell? w _ Hy3.out)).trans Hy3.out; clear y1 y2 y3; have y1 := y1'; have y2 := y2'; have y3 := y3'; clear y1' y2' y3') | (go_at_call 17; (refine (span_Has.calls A8 c8 x.f1 z.f2 z.f3 bb _ (by first | exact (HST.out.laid hl8).1 | exact (HST.out.drew.laid hl8).1 | exact (HST.out.drew.drew.laid hl8).1) hc8 HPL.out).mono ?_); rintro e wb ⟨rfl, hb⟩; (first | have HST_ := Aside0.mk (HST.out.below hb) | have HST_ := Aside0.mk (HST.out.drew.below hb) | have HST_ := Aside0.mk (HST.out.drew.drew.below hb) | have HST_ := Aside0.mk ((HST.out.drewN _).below hb)); (first | have HJ_ := Aside0.mk (HJ.out.below hb) | have HJ_ := Aside0.mk (HJ.out.drew.below hb) | have HJ_ := Aside0.mk (HJ.out.drew.drew.below hb) | have HJ_ := Aside0.mk ((HJ.out.drewN _).below hb)); clear hb; clear HST HJ; have HST := HST_; have HJ := HJ_; clear HST_ HJ_; have y1' : wb.cell? ⟨(ad.add (m * 6)).block, (ad.add (m * 6)).off + 1, none⟩ = some (.slice A1 x.f1.length c1) := (HST.out.bl.cell (World.block_lt_of_cell? w _ Hy1.out)).trans Hy1.out; have y2' : wb.cell? ⟨(ad.add (p * 6)).block, (ad.add (p * 6)).off + 2, none⟩ = some (.int .i64 z.f2) := (HST.out.bl.cell (World.block_lt_of_cell? w _ Hy2.out)).trans Hy2.out; have y3' : wb.cell? ⟨(ad.add (p * 6)).block, (ad.add (p * 6)).off + 3, none⟩ = some (.int .i64 z.f3) := (HST.out.bl.cell (World.block_lt_of_cell? w _ Hy3.out)).trans Hy3.out; clear y1 y2 y3; have y1 := y1'; have y2 := y2'; have y3 := y3'; clear y1' y2' y3') | (go_at_call 39; (refine (postbagref4_Has.calls 5000 A1 c1 x.f1 z.f2 z.f3 bb _ (by first | exact (Safe.now HJ.out) | exact (Safe.now HJ.out.drew) | exact (Safe.now HJ.out.drew.drew)) HD.out HRL.out).mono ?_); rintro e wd ⟨rfl, hb⟩; (first | have HST_ := Aside0.mk (HST.out.below hb) | have HST_ := Aside0.mk (HST.out.drew.below hb) | have HST_ := Aside0.mk (HST.out.drew.drew.below hb) | have HST_ := Aside0.mk ((HST.out.drewN _).below hb)); (first | have HJ_ := Aside0.mk (HJ.out.below hb) | have HJ_ := Aside0.mk (HJ.out.drew.below hb) | have HJ_ := Aside0.mk (HJ.out.drew.drew.below hb) | have HJ_ := Aside0.mk ((HJ.out.drewN _).below hb)); clear hb; clear HST HJ; have HST := HST_; have HJ := HJ_; clear HST_ HJ_; have y1' : wd.cell? ⟨(ad.add (m * 6)).block, (ad.add (m * 6)).off + 1, none⟩ = some (.slice A1 x.f1.length c1) := (HST.out.bl.cell (World.block_lt_of_cell? w _ Hy1.out)).trans Hy1.out; have y2' : wd.cell? ⟨(ad.add (p * 6)).block, (ad.add (p * 6)).off + 2, none⟩ = some (.int .i64 z.f2) := (HST.out.bl.cell (World.block_lt_of_cell? w _ Hy2.out)).trans Hy2.out; have y3' : wd.cell? ⟨(ad.add (p * 6)).block, (ad.add (p * 6)).off + 3, none⟩ = some (.int .i64 z.f3) := (HST.out.bl.cell (World.block_lt_of_cell? w _ Hy3.out)).trans Hy3.out; clear y1 y2 y3; have y1 := y1'; have y2 := y2'; have y3 := y3'; clear y1' y2' y3')))
                  all_goals
                    go_wp2
                    go_meet
                    exact ⟨rfl, A8, c8, n8, Aside0.mk (by first | exact HST.out | exact HST.out.drew | exact HST.out.drew.drew | exact (HST.out.drewN _))⟩
                case rest =>
                  obtain ⟨rfl, A8, c8, n8, HST⟩ := hcut
                  go_wp2
                  exact ⟨⟨m + 1, A8, c8, layA n8 x.f1, by go_num, by omega, HST⟩, by simp [intOf]; omega⟩
              · have d4 : decide ((m : Int) < (l0.length : Int)) = false := decide_eq_false (by omega)
                go_wp2
                exact ⟨⟨p + 1, A6, c6, xs, by go_num, by omega, HST⟩, by simp [intOf]; omega⟩
          · have hL4 := laid_below HL_.out HST.out.bl
            have HB := Aside0.mk HST.out.bl
            by_cases hp2 : p < l0.length
            · have d2 : decide ((p : Int) < (l0.length : Int)) = true := decide_eq_true (by omega)
              have d3 : decide ((p : Int) < 6) = false := decide_eq_false (by omega)
              go_wp2_with fail
              go_at_call 20
              refine (postbaglaw4_known.calls 50 true wo known_50 hL4).mono ?_
              rintro e w3 ⟨rfl, hb3⟩
              have HB3 := Aside0.mk (below_step HB.out hb3)
              clear hb3 hL4
              go_wp2_with fail
              go_ret
              exact ⟨rfl, HB3.out⟩
            · have d2 : decide ((p : Int) < (l0.length : Int)) = false := decide_eq_false (by omega)
              go_wp2_with fail
              go_at_call 20
              refine (postbaglaw4_known.calls 50 true wo known_50 hL4).mono ?_
              rintro e w3 ⟨rfl, hb3⟩
              have HB3 := Aside0.mk (below_step HB.out hb3)
              clear hb3 hL4
              go_wp2_with fail
              go_ret
              exact ⟨rfl, HB3.out⟩
end Go.Proofs.YtidcchopmbodkaaDoor.Sp
end
section
namespace Go.Proofs.YtidcchopmbodkaaDoor.Pure
open Go.Proofs.YtidcchopmbodkaaDoor.Sp
theorem sizesL : Tryd.prog.bytesOf 28 = 16 ∧ Tryd.prog.bytesOf 3 = 8 ∧ Tryd.prog.bytesOf 23 = 24 ∧ Tryd.prog.bytesOf 38 = 104 := ⟨by kernel_rfl, by kernel_rfl, by kernel_rfl, by kernel_rfl⟩
def GoodL (x : S38) : Prop := x.f0.size ≤ 140737488351232 ∧ ((∀ y ∈ x.f1, (Lit.int .i64 y.f0).wf = true ∧ (Lit.int .i64 y.f1).wf = true) ∧ x.f1.length * Tryd.prog.bytesOf 28 ≤ 140737488351232) ∧ (Lit.int .i64 x.f2).wf = true ∧ (Lit.int .i64 x.f3).wf = true ∧
  ((∀ y ∈ x.f4, (Lit.int .i64 y).wf = true) ∧ x.f4.length * Tryd.prog.bytesOf 3 ≤ 140737488351232) ∧ ((∀ y ∈ x.f5, (∀ z ∈ y, (Lit.int .i64 z.f0).wf = true ∧ (Lit.int .i64 z.f1).wf = true) ∧ y.length * Tryd.prog.bytesOf 28 ≤ 140737488351232) ∧ x.f5.length * Tryd.prog.bytesOf 23 ≤ 140737488351232)
theorem fits_ofL {l : List S38} (h : ∀ x ∈ l, GoodL x) : FitsL l := by
  obtain ⟨s1, s2, s3, _⟩ := sizesL
  intro x hx
  obtain ⟨_, ⟨_, h1⟩, _, _, ⟨_, h4⟩, ⟨h5, h6⟩⟩ := h x hx
  rw [s1] at h1
  rw [s2] at h4
  rw [s3] at h6
  refine ⟨by omega, by omega, by omega, fun y hy => ?_⟩
  have := (h5 y hy).2
  rw [s1] at this
  omega
theorem asked_true (l : List S38) (h : (∀ x ∈ l, GoodL x) ∧ l.length * Tryd.prog.bytesOf 38 ≤ 140737488351232) : askedL l = some true := by
  unfold askedL
  exact if_pos ⟨fits_ofL h.1, by have := h.2; rw [sizesL.2.2.2] at this; omega⟩
end Go.Proofs.YtidcchopmbodkaaDoor.Pure
end
section
namespace Go.Proofs.YtidcchopmbodkaaDoor.Pure
open Go.Proofs.YtidcchopmbodkaaDoor.Sp
theorem SpanHolds (l : List S38) (h : (∀ x ∈ l, GoodL x) ∧ l.length * Tryd.prog.bytesOf 38 ≤ 140737488351232) : ∃ k, postbaglaw4_SpanHolds.f k l = some true := ⟨0, asked_true l h⟩
end Go.Proofs.YtidcchopmbodkaaDoor.Pure
end
section
namespace Go.Proofs.YtidcchopmbodkaaDoor.Sp
open Go.ChangeShapes Go.WideShapes Go.ChangeAt Go.RowKit
theorem gPow : Tryd.prog.globalNamed "internal/strconv.uint64pow10" = some 1 := by kernel_rfl
theorem tPow : (Tryd.prog.globals[1]?).map (·.type) = some 134 := by kernel_rfl
theorem door_met (os : Os) (args : Array Value) : laidMetH Tryd.prog [("math/bits.deBruijn32tab", Rows.laid_math_bits_deBruijn32tab), ("math/bits.deBruijn64tab", Rows.laid_math_bits_deBruijn64tab), ("internal/strconv.uint64pow10", Rows.laid_internal_strconv_uint64pow10)] ((World.doorLaid Tryd.prog 400 os).forCall (fun _ _ => 0) ⟨#[], args, []⟩).memory :=
  laidMetH_of_parts3 (fuel := 8) (laidMet_of_run' 8 (by kernel_rfl) (by kernel_rfl)) (by kernel_rfl) (by kernel_rfl)
theorem pow_data {H : Type} : (Rows.laid_internal_strconv_uint64pow10 : DataW H) = Lib.tabData .u64 Lib.pow10Tab := by kernel_rfl
theorem of_laid {W : World} (h : laidMetH Tryd.prog [("math/bits.deBruijn32tab", Rows.laid_math_bits_deBruijn32tab), ("math/bits.deBruijn64tab", Rows.laid_math_bits_deBruijn64tab), ("internal/strconv.uint64pow10", Rows.laid_internal_strconv_uint64pow10)] W) : Laid W := by
  rw [MakeChecks.laidMetH_plain _ _ _ (by kernel_rfl)] at h
  obtain ⟨ps, h1, _, _⟩ := h
  obtain ⟨_, _, _, _, _, _, _, _, _, _, h1, _⟩ := h1
  obtain ⟨_, _, _, _, _, _, _, _, _, _, h1, _⟩ := h1
  obtain ⟨g1, t1, cs1, f1, p1, q1, hg1, ht1, hv1, hd1, _, _⟩ := h1
  obtain rfl := Option.some.inj (gPow.symm.trans hg1)
  obtain rfl := Option.some.inj (tPow.symm.trans ht1)
  rw [pow_data] at hd1
  exact ⟨by unfold Lib.TabIs; rw [hv1, ← Lib.cells_of_tab Tryd.underlying134 Tryd.underlying113 (by kernel_rfl) (by kernel_rfl) hd1]⟩
end Go.Proofs.YtidcchopmbodkaaDoor.Sp
end
