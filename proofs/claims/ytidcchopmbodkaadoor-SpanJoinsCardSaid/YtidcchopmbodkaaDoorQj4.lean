import Derived.Test.YtidcchopmbodkaaDoorQj3
import Derived.Test.YtidcchopmbodkaaDoorQj2
import Derived.Lib.Hide
section
namespace Go.Proofs.YtidcchopmbodkaaDoor.Sp
open Go.RowKit Go.Proofs.YtidcchopmbodkaaDoorW.PrintWords Go.Proofs.YtidcchopmbodkaaDoorW.PrintLast Go.Proofs.YtidcchopmbodkaaDoorW.PrintMore
set_option linter.unusedSimpArgs false
structure Dw (B p : Nat) (w W : World) (M0 : Nat → Prop) (iv tv : Value) (vals : List Value) (xss : List (List S28)) (tvs : List Value) : Prop where
  d : Dj B p W iv tv vals xss tvs
  k : Kept w W M0
  m : ∀ q, DM p iv tv vals q → M0 q ∨ w.heap.size ≤ q
  b : Below B w W
theorem DM.onto {W : World} {p : Nat} {iv tv iv1 tv1 : Value} {vals : List Value} (h1 : Onto W iv iv1) (h2 : Onto W tv tv1) : ∀ q, DM p iv1 tv1 vals q → DM p iv tv vals q ∨ W.heap.size ≤ q := by
  rintro q (rfl | ⟨v, hm, ho⟩)
  · exact Or.inl (Or.inl rfl)
  · rcases List.mem_cons.1 hm with rfl | hm
    · rcases h1 with h1 | ⟨b, h1, h3⟩
      · exact Or.inl (Or.inr ⟨iv, by simp, h1 ▸ ho⟩)
      · rw [h1] at ho; injection ho with ho; exact Or.inr (by omega)
    rcases List.mem_cons.1 hm with rfl | hm
    · rcases h2 with h2 | ⟨b, h2, h3⟩
      · exact Or.inl (Or.inr ⟨tv, by simp, h2 ▸ ho⟩)
      · rw [h2] at ho; injection ho with ho; exact Or.inr (by omega)
    · exact Or.inl (Or.inr ⟨v, by simp [hm], ho⟩)
theorem DM.snoc {p : Nat} {iv tv : Value} {vals : List Value} : ∀ q, DM p iv tv (vals ++ [Value.slice none 0 0]) q → DM p iv tv vals q := by
  rintro q (rfl | ⟨v, hm, ho⟩)
  · exact Or.inl rfl
  · rcases List.mem_cons.1 hm with rfl | hm
    · exact Or.inr ⟨_, by simp, ho⟩
    rcases List.mem_cons.1 hm with rfl | hm
    · exact Or.inr ⟨_, by simp, ho⟩
    rcases List.mem_append.1 hm with hm | hm
    · exact Or.inr ⟨_, by simp [hm], ho⟩
    · rw [List.mem_singleton.1 hm] at ho; simp [Value.ownBlock] at ho
theorem DM.set {W : World} {p i : Nat} {iv tv v v1 : Value} {vals : List Value} (hv : vals[i]? = some v) (h : Onto W v v1) : ∀ q, DM p iv tv (vals.set i v1) q → DM p iv tv vals q ∨ W.heap.size ≤ q := by
  rintro q (rfl | ⟨u, hm, ho⟩)
  · exact Or.inl (Or.inl rfl)
  · rcases List.mem_cons.1 hm with rfl | hm
    · exact Or.inl (Or.inr ⟨_, by simp, ho⟩)
    rcases List.mem_cons.1 hm with rfl | hm
    · exact Or.inl (Or.inr ⟨_, by simp, ho⟩)
    rcases List.mem_or_eq_of_mem_set hm with hm | rfl
    · exact Or.inl (Or.inr ⟨_, by simp [hm], ho⟩)
    · rcases h with h | ⟨b, h, h3⟩
      · exact Or.inl (Or.inr ⟨v, by simp [List.mem_of_getElem? hv], h ▸ ho⟩)
      · rw [h] at ho; injection ho with ho; exact Or.inr (by omega)
section
variable {B p : Nat} {w W : World} {M0 : Nat → Prop} {iv tv : Value} {vals : List Value} {xss : List (List S28)} {tvs : List Value}
theorem Dw.next (h : Dw B p w W M0 iv tv vals xss tvs) {W1 : World} {iv1 tv1 : Value} {vals1 : List Value} {xss1 : List (List S28)} {tvs1 : List Value} {S : Nat → Prop} (hd : Dj B p W1 iv1 tv1 vals1 xss1 tvs1) (hk : Kept W W1 S) (hS : ∀ q, S q → DM p iv tv vals q) (hm : ∀ q, DM p iv1 tv1 vals1 q → DM p iv tv vals q ∨ W.heap.size ≤ q) (hb : Below B W W1) : Dw B p w W1 M0 iv1 tv1 vals1 xss1 tvs1 :=
  ⟨hd, h.k.then_ hk (fun q hq => h.m q (hS q hq)), fun q hq => (hm q hq).elim (h.m q) (fun h1 => Or.inr (Nat.le_trans h.k.1 h1)), h.b.trans hb⟩
theorem Dw.drew (h : Dw B p w W M0 iv tv vals xss tvs) : Dw B p w W.drew M0 iv tv vals xss tvs :=
  h.next (h.d.below (below_drew (Below.refl _ _))) (Kept.of_below (below_drew (Below.refl _ _)) (fun _ => False)) (fun _ hq => hq.elim) (fun _ hq => Or.inl hq) (below_drew (Below.refl _ _))
end
theorem heapL28 : Kd.Heap (Kd.slice 28 k28) := Kd.heap_slice 28 (Kd.heap_iso _ (Kd.heap_pair (Kd.heap_int _) (Kd.heap_int _)))
def LaidJ (l : List (List S28)) (n : Nat) (vals : List Value) (xss : List (List S28)) (tvs : List Value) : Prop :=
  l.length ≤ xss.length ∧ l.length + 4 ≤ tvs.length ∧ (∀ (i : Nat) (x : List S28), i < n → l[i]? = some x → ∃ (A : Option Addr) (c m : Nat), vals[i]? = some (.slice A m c) ∧ xss[i]? = some (layA m x) ∧ x.length ≤ m ∧ tvs[i]? = some (.slice A x.length c)) ∧ ∀ i, n ≤ i → i < tvs.length → tvs[i]? = some (.slice none 0 0)
set_option maxHeartbeats 8000000 in
set_option maxRecDepth 100000 in
theorem several_calls (B p : Nat) (Ai At : Option Addr) (ci ct : Nat) (vals : List Value) (xss : List (List S28)) (tvs : List Value) (A : Option Addr) (c : Nat) (l : List (List S28)) (w : World)
    (h : Dj B p w (.slice Ai vals.length ci) (.slice At tvs.length ct) vals xss tvs) (hl : Safe (fun W => Kd.C (Kd.slice 28 k28) W A l.length l) w (DM p (.slice Ai vals.length ci) (.slice At tvs.length ct) vals)) (hn : l.length ≤ 3000) (hnl : ∀ x ∈ l, x.length ≤ 3000) :
    Calls Tryd.prog 42 #[.pointer (some ⟨p, 0, none⟩), .slice A l.length c] w fun e w' => ∃ (Ai' At' : Option Addr) (ci' ct' : Nat) (vals' : List Value) (xss' : List (List S28)) (tvs' : List Value), e = .returned (.slice At' l.length ct') ∧ l.length ≤ ct' ∧ LaidJ l l.length vals' xss' tvs' ∧
      Dw B p w w' (DM p (.slice Ai vals.length ci) (.slice At tvs.length ct) vals) (.slice Ai' vals'.length ci') (.slice At' tvs'.length ct') vals' xss' tvs' := by
  have HD0 : Aside0 (Dw B p w w (DM p (.slice Ai vals.length ci) (.slice At tvs.length ct) vals) (.slice Ai vals.length ci) (.slice At tvs.length ct) vals xss tvs) := ⟨⟨h, Kept.refl _ _, fun q hq => Or.inl hq, Below.refl _ _⟩⟩
  have HM0 := Lib.hid h.base
  have hlm : l.length ≤ 9223372036854775807 := hl.now.2.1
  generalize hM0 : DM p (.slice Ai vals.length ci) (.slice At tvs.length ct) vals = M0 at *
  have HL := Lib.hid hl
  have HNL := Lib.hid hnl
  clear h hl hnl hM0
  go_enter Tryd.func42, Tryd.ntmps42
  go_wp2_with fail
  go_loopg [] (l.length - xss.length) (fun kq W => ∃ (Ai : Option Addr) (ci : Nat) (vals : List Value) (xss : List (List S28)), Aside0 (l.length ≤ xss.length + kq) ∧ Aside0 (Dw B p w W M0 (.slice Ai vals.length ci) (.slice At tvs.length ct) vals xss tvs))
  case atStart => exact ⟨Ai, ci, vals, xss, ⟨by omega⟩, HD0⟩
  case round =>
    clear HD0
    obtain ⟨Ai, ci, vals, xss, HK, HD⟩ := hrel
    have hlen := HD.out.d.len
    have hdp := HD.out.d.hp
    have y2 := blk_cell hdp 2
    have y3 := blk_cell hdp 3
    have f2 := blk_frozen hdp 2
    have f3 := blk_frozen hdp 3
    have HLEN := Lib.hid hlen
    clear hdp hlen
    by_cases hlt : vals.length < l.length
    · have hxl : xss.length < 3000 := by have := HLEN.out; omega
      have hbw : B ≤ wr.heap.size := Nat.le_trans (by have := HM0.out; have := HD.out.d.base; have h3 := HD.out.d.pB; have h4 := blk_lt HD.out.d.hp; omega) (Nat.le_refl _)
      go_wp2_with ((with_reducible refine gate_builtin (b := .append) (xs := #[.tmp 19, .tmp 20]) rfl ?_); at_builtin; (refine Kd.R_append (Kd.raw 1) (w0 := wr) B rfl (.tmp 19) (.tmp 20) 35 23 (.slice none 0 0) 24 rfl Tryd.underlying35 info23 rfl (show 0 < 1 from by omega) (by omega) (.slice Ai vals.length ci) (ones vals) [.slice none 0 0] [.slice none 0 0] (fun _ => True) (fun _ => False) rfl rfl ⟨rfl, rfl, fun u hu => by rw [List.mem_singleton.1 hu]; rfl⟩ (fun _ hk => hk.elim) (fun _ _ => trivial) (Kd.raw_any HD.out.d.ri) (Below.refl _ _) hbw (by rw [ones_len]; omega) ?_); intro v1 w1 hR1 hb1 hg1 hat1; rw [ones_snoc] at hR1; have hR1' := Kd.raw_tight hR1; obtain ⟨A1, c1, hv1⟩ := Kd.R_slice hR1'; rw [ones_len, List.length_append, List.length_singleton] at hv1; subst hv1; have hk1 : Kept wr w1 (fun k => some k = (Value.slice Ai vals.length ci).ownBlock) := (Kept.refl _ _).of_grown hg1 (fun k hk => Or.inl hk.symm); have hp1 := blk_kept HD.out.d.hp hk1 HD.out.d.neP.1; have g2 := blk_cell hp1 2; have e2 := blk_frozen hp1 2; have HN := Aside0.mk (HD.out.next (HD.out.d.push hk1 hR1' hat1 hxl) ((hk1.mono (S' := fun k => k = p ∨ some k = (Value.slice Ai vals.length ci).ownBlock) (fun k h => Or.inr h)).setCell (p := ⟨p, 2, none⟩) (Or.inl (Or.inl rfl)) _) (fun q hq => hq.elim (fun h => Or.inl h) (fun h => Or.inr ⟨_, by simp, h.symm⟩)) (fun q hq => DM.onto hat1 (Onto.refl _ _) q (DM.snoc q hq)) (hb1.setCell (p := ⟨p, 2, none⟩) HD.out.d.pB _)); clear hR1 hb1 hg1 hat1 hR1' hk1 hp1 y2 y3 f2 f3 HD)
      go_roundg (gk - 1)
      case measure => have := HK.out; have := HLEN.out; omega
      case rel => exact ⟨A1, c1, vals ++ [.slice none 0 0], xss ++ [[]], ⟨by have := HK.out; have := HLEN.out; simp only [List.length_append, List.length_singleton]; omega⟩, ⟨by rw [show (vals ++ [Value.slice none 0 0]).length = vals.length + 1 from by simp]; exact HN.out⟩⟩
    · have hge : l.length ≤ vals.length := by omega
      go_upto_if 32 with fail
      go_cut [] (fun wc => ∃ (At : Option Addr) (ct : Nat) (tvs : List Value), Aside0 (l.length + 4 ≤ tvs.length) ∧ Aside0 (Dw B p w wc M0 (.slice Ai vals.length ci) (.slice At tvs.length ct) vals xss tvs))
      case first =>
        by_cases hlt2 : tvs.length < l.length + 4
        · have d1 : decide ((tvs.length : Int) < (l.length : Int) + 4) = true := decide_eq_true (by omega)
          have i1 : ((2 * (l.length : Int) + 40)).toNat = 2 * l.length + 40 := by omega
          have hbw : B ≤ wr.heap.size := by have h3 := HD.out.d.pB; have h4 := blk_lt HD.out.d.hp; omega
          go_wp2_with ((with_reducible refine gate_dst (N := 38) rfl ?_); (refine Kd.R_make (Kd.raw 1) B 23 rfl (N := 38) rfl 35 _ _ rfl (2 * (l.length : Int) + 40) rfl rfl Tryd.underlying35 (.slice none 0 0) 24 info23 rfl (show 0 < 1 from by omega) (by omega) [.slice none 0 0] (ok := fun _ => True) (okp := fun _ => True) ⟨rfl, rfl, fun u hu => by rw [List.mem_singleton.1 hu]; rfl⟩ (fun _ hk => hk) trivial (by omega) (by omega) (Below.refl _ _) hbw ?_); intro v1 w1 hR hb hg hnew; rw [i1, show List.replicate (2 * l.length + 40) [Value.slice none 0 0] = ones (List.replicate (2 * l.length + 40) (.slice none 0 0)) from by unfold ones; rw [List.map_replicate]] at hR; have hR' := Kd.raw_tight hR; obtain ⟨A1, c1, hv1⟩ := Kd.R_slice hR'; rw [ones_len, List.length_replicate] at hv1; subst hv1; have hp1 := blk_grown HD.out.d.hp hg (by simp); have g3 := blk_cell hp1 3; have e3 := blk_frozen hp1 3; have hbb : Below wr.heap.size wr w1 := ⟨hg.os, hg.tape, hg.output, hg.size, fun k hk => hg.block k hk (by simp)⟩; have HN := Aside0.mk (HD.out.next (HD.out.d.news hbb hR' (fun k hk => by obtain ⟨b, h1, h2⟩ := hnew; rw [h1] at hk; injection hk with hk; omega) (by rw [List.length_replicate]; omega)) ((Kept.of_below hbb (fun k => k = p)).setCell (p := ⟨p, 3, none⟩) (Or.inl rfl) _) (fun q hq => Or.inl hq) (fun q hq => DM.onto (Onto.refl _ _) (Or.inr hnew) q hq) (hb.setCell (p := ⟨p, 3, none⟩) HD.out.d.pB _)); clear hR hb hg hnew hR' hp1 hbb y2 y3 f2 f3 HD)
          go_meet
          exact ⟨A1, c1, List.replicate (2 * l.length + 40) (.slice none 0 0), ⟨by rw [List.length_replicate]; omega⟩, ⟨by rw [List.length_replicate]; exact HN.out⟩⟩
        · have d1 : decide ((tvs.length : Int) < (l.length : Int) + 4) = false := decide_eq_false (by omega)
          go_wp2
          go_meet
          exact ⟨At, ct, tvs, ⟨by omega⟩, HD⟩
      case rest =>
        clear y2 y3 f2 f3 HD
        obtain ⟨At, ct, tvs, HT, HD⟩ := hcut
        go_wp2_with fail
        go_loopw [5] (fun i W => ∃ (k : Nat) (ts : List Value), i = .int .i64 k ∧ k ≤ ts.length ∧ ts.length = tvs.length ∧ Aside0 (∀ j, j < k → ts[j]? = some (.slice none 0 0)) ∧ Aside0 (Dw B p w W M0 (.slice Ai vals.length ci) (.slice At tvs.length ct) vals xss ts)) (fun i _ => tvs.length - (intOf i).toNat)
        case atStart => exact ⟨0, tvs, rfl, by omega, rfl, ⟨fun j hj => by omega⟩, HD⟩
        case round =>
          obtain ⟨wq, rfl⟩ : ∃ wq : World, wq = wr := ⟨_, rfl⟩
          clear HD
          obtain ⟨k, ts, rfl, hk, hts, HNIL, HD⟩ := hrel
          have y3 := blk_cell HD.out.d.hp 3
          have htv : tvs.length ≤ 6040 := by have := HD.out.d.n2; omega
          by_cases hkl : k < tvs.length
          · obtain ⟨g, cp, e, hg1, hg2, _⟩ := Kd.R_form HD.out.d.rt (by rw [ones_len]; omega)
            rw [ones_len, hts] at e
            injection e with e1 e2 e3
            subst e1; subst e3
            have htk : ts[k]? = some (ts[k]'(by omega)) := List.getElem?_eq_getElem (by omega)
            obtain ⟨q1, q2, _, _⟩ := raw_cell HD.out.d.rt k _ htk
            generalize ts[k]'(by omega) = tk at *
            obtain ⟨hR2, hg⟩ := raw_set HD.out.d.rt k (by omega) (.slice none 0 0) rfl
            have hk1 : Kept wq (wq.setCell ⟨g, k, none⟩ (.slice none 0 0)) (fun k => some k = (Value.slice (some ⟨g, 0, none⟩) tvs.length ct).ownBlock) := (Kept.refl _ _).of_grown hg (fun k hk => Or.inl (by rw [← hk]; rfl))
            have HN := Aside0.mk (HD.out.next (HD.out.d.put hk1 hR2 (by rw [List.length_set]; omega)) hk1 (fun q hq => Or.inr ⟨_, by simp, hq.symm⟩) (fun q hq => Or.inl hq) ((Below.refl B wq).setCell (p := ⟨g, k, none⟩) hg1 _))
            clear hR2 hg hk1 htk
            go_wp2
            exact ⟨⟨k + 1, ts.set k (.slice none 0 0), by go_num, by rw [List.length_set]; omega, by rw [List.length_set]; exact hts, ⟨fun j hj => by
              rw [List.getElem?_set]
              split
              · rw [if_pos (by omega)]
              · exact HNIL.out j (by omega)⟩, HN⟩, by simp [intOf]; omega⟩
          · have hke : k = tvs.length := by omega
            subst hke
            go_wp2_with fail
            go_loopw [6] (fun i W => ∃ (k : Nat) (vals : List Value) (xss : List (List S28)) (ts : List Value), i = .int .i64 k ∧ k ≤ l.length ∧ ts.length = tvs.length ∧ l.length ≤ vals.length ∧ Aside0 ((∀ (i : Nat) (x : List S28), i < k → l[i]? = some x → ∃ (A : Option Addr) (c m : Nat), vals[i]? = some (.slice A m c) ∧ xss[i]? = some (layA m x) ∧ x.length ≤ m ∧ ts[i]? = some (.slice A x.length c)) ∧ ∀ i, k ≤ i → i < ts.length → ts[i]? = some (.slice none 0 0)) ∧ Aside0 (Dw B p w W M0 (.slice Ai vals.length ci) (.slice At tvs.length ct) vals xss ts)) (fun i _ => l.length - (intOf i).toNat)
            case atStart => exact ⟨0, vals, xss, ts, rfl, by omega, hts, hge, ⟨fun i x hi => by omega, fun i _ hi => HNIL.out i (by omega)⟩, HD⟩
            case round =>
              obtain ⟨wz, rfl⟩ : ∃ wz : World, wz = wr := ⟨_, rfl⟩
              clear HD HLEN HNIL y3 hk hkl
              clear hts hge hlt
              obtain ⟨k, vals, xss, ts, rfl, hk, hts, hge, HLJ, HD⟩ := hrel
              have hgt : l.length + 4 ≤ tvs.length := HT.out
              by_cases hkl : k < l.length
              · have p1 : (0 : Int) ≤ (k : Int) := by omega
                have p2 : (k : Int) < (l.length : Int) := by omega
                have p3 : (k : Int) < (vals.length : Int) := by omega
                have hbw : B ≤ wz.heap.size := by have h3 := HD.out.d.pB; have h4 := blk_lt HD.out.d.hp; omega
                have hs := HL.out.step HD.out.k (fun _ h => h) (M1 := DM p (.slice Ai vals.length ci) (.slice At tvs.length ct) vals) HD.out.m
                obtain ⟨ad, cs, eA, _, hFK, hcell, hokb⟩ := Kd.F_get (show Kd.F (Kd.slice 28 k28) wz (fun q => ¬ DM p (.slice Ai vals.length ci) (.slice At tvs.length ct) vals q) A l.length l from hs) [] (k : Int) p1 p2
                subst eA
                obtain ⟨A2, c2, ecs, hc2, hF⟩ := Kd.FK_slice_open hFK
                subst ecs
                have hlk : l[k]? = some (l[k]'hkl) := List.getElem?_eq_getElem hkl
                have egd : l.getD (k : Int).toNat [] = l[k]'hkl := by rw [Int.toNat_natCast, List.getD_eq_getElem?_getD, hlk]; rfl
                have xl := hcell 0 _ rfl
                have hxn := HNL.out (l[k]'hkl) (List.getElem_mem hkl)
                rw [egd] at hc2 hF xl
                rw [Int.toNat_natCast, show k * (Kd.slice 28 k28).sz + 0 = k from (show k * 1 + 0 = k by omega)] at xl
                have HLK := Aside0.mk hlk
                generalize l[k]'hkl = x at *
                have HAD := Aside0.mk (hokb (show 0 < 1 from by omega))
                have hvk : vals[k]? = some (vals[k]'(by omega)) := List.getElem?_eq_getElem (by omega)
                obtain ⟨xs, hxk, hRv, hx6⟩ := HD.out.d.row k _ hvk
                obtain ⟨Av, cv, eV⟩ := Kd.R_slice hRv
                rw [eV] at hvk hRv
                obtain ⟨gi, cpi, ei, hg1, hg2, _⟩ := Kd.R_form HD.out.d.ri (by rw [ones_len]; omega)
                rw [ones_len] at ei
                injection ei with ei1 ei2 ei3
                subst ei1; subst ei3
                obtain ⟨q0, f0, _, _⟩ := raw_cell HD.out.d.ri k _ hvk
                have hrb := roomB_ge' xs.length x.length
                have hrl := roomD_le xs.length x.length hx6 hxn
                have hll := layA_len (roomB xs.length x.length) x (by omega)
                generalize hn7 : roomB xs.length x.length = n7 at *
                have y2 := blk_cell HD.out.d.hp 2
                have HVK := Aside0.mk hvk
                have HRV := Aside0.mk hRv
                have HF := Aside0.mk hF
                have HLL := Lib.hid hll
                have HN7 := Lib.hid hn7
                have HOV : Aside0 (∀ q, some q = (Value.slice Av xs.length cv).ownBlock → DM p (.slice (some ⟨gi, 0, none⟩) vals.length ci) (.slice At tvs.length ct) vals q) := ⟨fun q hq => Or.inr ⟨_, by simp [List.mem_of_getElem? hvk], hq.symm⟩⟩
                have hadb : ∀ k, (ad.add k).block = ad.block := fun k => by unfold Addr.add; split <;> rfl
                have HGP := Aside0.mk (show gi ≠ p from fun e => HD.out.d.neP.1 (by rw [← e]; rfl))
                have HGA := Aside0.mk (show gi ≠ (ad.add k).block from fun e => HAD.out (Or.inr ⟨_, List.mem_cons_self, (by rw [show ad.block = gi from (hadb k).symm.trans e.symm]; rfl)⟩))
                clear hs hFK hcell hokb hlk egd hvk hRv eV hF hn7 hll hxk
                go_wp2_with fail
                go_cut [] (fun wc => ∃ (A7 : Option Addr) (c7 : Nat), Aside0 (Dw B p w wc M0 (.slice (some ⟨gi, 0, none⟩) vals.length ci) (.slice At tvs.length ct) (vals.set k (.slice A7 n7 c7)) (xss.set k (layA n7 x)) ts))
                case first =>
                  refine wp_region_held_drew (S := (fun w' => w'.cell? ⟨p, 2, none⟩ = some (.slice (some ⟨gi, 0, none⟩) vals.length ci) ∧ w'.cell? (ad.add k) = some (.slice A2 x.length c2))) (by kernel_rfl) ?_ (fun hHeld => ?_)
                  · simp [*]
                  refine wpAnyH_take (i := 0) (v := ?_) (by simp only [List.getElem?_toArray, List.getElem?_cons_succ, List.getElem?_cons_zero]; rfl) (by kernel_rfl) (by kernel_rfl) (by kernel_rfl) (by exact fun _ _ _ h => h) (Or.inl ⟨by rfl, ?_⟩) (by assumption) ?_
                  rotate_left
                  · intro w hSw
                    (try dsimp only at hSw)
                    go_simp
                    try with_reducible rfl
                  (try simp only [Act.put, List.setIfInBounds_toArray, List.set_cons_zero, List.set_cons_succ])
                  refine wpAnyH_take (i := 1) (v := ?_) (by simp only [List.getElem?_toArray, List.getElem?_cons_succ, List.getElem?_cons_zero]; rfl) (by kernel_rfl) (by kernel_rfl) (by kernel_rfl) (by exact fun _ _ _ h => h) (Or.inl ⟨by rfl, ?_⟩) (by assumption) ?_
                  rotate_left
                  · intro w hSw
                    (try dsimp only at hSw)
                    go_simp
                    try with_reducible rfl
                  (try simp only [Act.put, List.setIfInBounds_toArray, List.set_cons_zero, List.set_cons_succ])
                  refine wpAnyH_take (i := 2) (v := ?_) (by simp only [List.getElem?_toArray, List.getElem?_cons_succ, List.getElem?_cons_zero]; rfl) (by kernel_rfl) (by kernel_rfl) (by kernel_rfl) (by exact fun _ _ _ h => h) (Or.inl ⟨by rfl, ?_⟩) (by assumption) ?_
                  rotate_left
                  · intro w hSw
                    (try dsimp only at hSw)
                    go_simp
                    try with_reducible rfl
                  (try simp only [Act.put, List.setIfInBounds_toArray, List.set_cons_zero, List.set_cons_succ])
                  refine wpAnyH_take (i := 3) (v := ?_) (by simp only [List.getElem?_toArray, List.getElem?_cons_succ, List.getElem?_cons_zero]; rfl) (by kernel_rfl) (by kernel_rfl) (by kernel_rfl) (by exact fun _ _ _ h => h) (Or.inl ⟨by rfl, ?_⟩) (by assumption) ?_
                  rotate_left
                  · intro w hSw
                    (try dsimp only at hSw)
                    go_simp
                    try with_reducible rfl
                  (try simp only [Act.put, List.setIfInBounds_toArray, List.set_cons_zero, List.set_cons_succ])
                  refine wpAnyH_take (i := 4) (v := ?_) (by simp only [List.getElem?_toArray, List.getElem?_cons_succ, List.getElem?_cons_zero]; rfl) (by kernel_rfl) (by kernel_rfl) (by kernel_rfl) (by exact fun _ _ _ h => h) (Or.inl ⟨by rfl, ?_⟩) (by assumption) ?_
                  rotate_left
                  · intro w hSw
                    (try dsimp only at hSw)
                    go_simp
                    try with_reducible rfl
                  (try simp only [Act.put, List.setIfInBounds_toArray, List.set_cons_zero, List.set_cons_succ])
                  refine wpAnyH_take (i := 5) (v := ?_) (by simp only [List.getElem?_toArray, List.getElem?_cons_succ, List.getElem?_cons_zero]; rfl) (by kernel_rfl) (by kernel_rfl) (by kernel_rfl) (by exact fun _ _ _ h => h) (Or.inl ⟨by rfl, ?_⟩) (by assumption) ?_
                  rotate_left
                  · intro w hSw
                    (try dsimp only at hSw)
                    go_simp
                    try with_reducible rfl
                  (try simp only [Act.put, List.setIfInBounds_toArray, List.set_cons_zero, List.set_cons_succ])
                  refine wpAnyH_take (i := 6) (v := ?_) (by simp only [List.getElem?_toArray, List.getElem?_cons_succ, List.getElem?_cons_zero]; rfl) (by kernel_rfl) (by kernel_rfl) (by kernel_rfl) (by exact fun _ _ _ h => h) (Or.inl ⟨by rfl, ?_⟩) (by assumption) ?_
                  rotate_left
                  · intro w hSw
                    (try dsimp only at hSw)
                    go_simp
                    try with_reducible rfl
                  (try simp only [Act.put, List.setIfInBounds_toArray, List.set_cons_zero, List.set_cons_succ])
                  refine wpAnyH_take (i := 7) (v := ?_) (by simp only [List.getElem?_toArray, List.getElem?_cons_succ, List.getElem?_cons_zero]; rfl) (by kernel_rfl) (by kernel_rfl) (by kernel_rfl) (by exact fun _ _ _ h => h) (Or.inl ⟨by rfl, ?_⟩) (by assumption) ?_
                  rotate_left
                  · intro w hSw
                    (try dsimp only at hSw)
                    go_simp
                    try with_reducible rfl
                  (try simp only [Act.put, List.setIfInBounds_toArray, List.set_cons_zero, List.set_cons_succ])
                  refine wpAnyH_take (i := 8) (v := ?_) (by simp only [List.getElem?_toArray, List.getElem?_cons_succ, List.getElem?_cons_zero]; rfl) (by kernel_rfl) (by kernel_rfl) (by kernel_rfl) (by exact fun _ _ _ h => h) (Or.inl ⟨by rfl, ?_⟩) (by assumption) ?_
                  rotate_left
                  · intro w hSw
                    (try dsimp only at hSw)
                    go_simp
                    try with_reducible rfl
                  (try simp only [Act.put, List.setIfInBounds_toArray, List.set_cons_zero, List.set_cons_succ])
                  refine wpAnyH_take (i := 9) (v := ?_) (by simp only [List.getElem?_toArray, List.getElem?_cons_succ, List.getElem?_cons_zero]; rfl) (by kernel_rfl) (by kernel_rfl) (by kernel_rfl) (by exact fun _ _ _ h => h) (Or.inl ⟨by rfl, ?_⟩) (by assumption) ?_
                  rotate_left
                  · intro w hSw
                    (try dsimp only at hSw)
                    go_simp
                    try with_reducible rfl
                  (try simp only [Act.put, List.setIfInBounds_toArray, List.set_cons_zero, List.set_cons_succ])
                  refine wpAnyH_take (i := 10) (v := ?_) (by simp only [List.getElem?_toArray, List.getElem?_cons_succ, List.getElem?_cons_zero]; rfl) (by kernel_rfl) (by kernel_rfl) (by kernel_rfl) (by exact fun _ _ _ h => h) (Or.inl ⟨by rfl, ?_⟩) (by assumption) ?_
                  rotate_left
                  · intro w hSw
                    (try dsimp only at hSw)
                    go_simp
                    try with_reducible rfl
                  (try simp only [Act.put, List.setIfInBounds_toArray, List.set_cons_zero, List.set_cons_succ])
                  refine wpAnyH_take (i := 12) (v := ?_) (by simp only [List.getElem?_toArray, List.getElem?_cons_succ, List.getElem?_cons_zero]; rfl) (by kernel_rfl) (by kernel_rfl) (by kernel_rfl) (by exact fun _ _ _ h => h) (Or.inl ⟨by rfl, ?_⟩) (by assumption) ?_
                  rotate_left
                  · intro w hSw
                    (try dsimp only at hSw)
                    go_simp
                    try with_reducible rfl
                  (try simp only [Act.put, List.setIfInBounds_toArray, List.set_cons_zero, List.set_cons_succ])
                  refine wpAnyH_take (i := 13) (v := ?_) (by simp only [List.getElem?_toArray, List.getElem?_cons_succ, List.getElem?_cons_zero]; rfl) (by kernel_rfl) (by kernel_rfl) (by kernel_rfl) (by exact fun _ _ _ h => h) (Or.inl ⟨by rfl, ?_⟩) (by assumption) ?_
                  rotate_left
                  · intro w hSw
                    (try dsimp only at hSw)
                    go_simp
                    try with_reducible rfl
                  (try simp only [Act.put, List.setIfInBounds_toArray, List.set_cons_zero, List.set_cons_succ])
                  refine wpAnyH_take (i := 14) (v := ?_) (by simp only [List.getElem?_toArray, List.getElem?_cons_succ, List.getElem?_cons_zero]; rfl) (by kernel_rfl) (by kernel_rfl) (by kernel_rfl) (by exact fun _ _ _ h => h) (Or.inl ⟨by rfl, ?_⟩) (by assumption) ?_
                  rotate_left
                  · intro w hSw
                    (try dsimp only at hSw)
                    go_simp
                    try with_reducible rfl
                  (try simp only [Act.put, List.setIfInBounds_toArray, List.set_cons_zero, List.set_cons_succ])
                  refine wpAnyH_take (i := 15) (v := ?_) (by simp only [List.getElem?_toArray, List.getElem?_cons_succ, List.getElem?_cons_zero]; rfl) (by kernel_rfl) (by kernel_rfl) (by kernel_rfl) (by exact fun _ _ _ h => h) (Or.inl ⟨by rfl, ?_⟩) (by assumption) ?_
                  rotate_left
                  · intro w hSw
                    (try dsimp only at hSw)
                    go_simp
                    try with_reducible rfl
                  (try simp only [Act.put, List.setIfInBounds_toArray, List.set_cons_zero, List.set_cons_succ])
                  refine wpAnyH_ready (rs := [11]) (by kernel_rfl) (by simp) ?_
                  refine AllReadyH.cons (by simp only [List.getElem?_toArray, List.getElem?_cons_succ, List.getElem?_cons_zero]; rfl) (fun K hK => ?_) AllReadyH.nil
                  go_simp
                  refine hK.out _ _ ?_ (fun hHeld2 => ?_)
                  · (try dsimp only)
                    exact ⟨by simp [*], by simp [*]⟩
                  clear hK K hHeld
                  have hHeld := hHeld2
                  clear hHeld2
                  (try simp only [Act.put, List.setIfInBounds_toArray, List.set_cons_zero, List.set_cons_succ])
                  refine wpAnyH_ready (rs := [16]) (by kernel_rfl) (by simp) ?_
                  refine AllReadyH.cons (by simp only [List.getElem?_toArray, List.getElem?_cons_succ, List.getElem?_cons_zero]; rfl) (fun K hK => ?_) AllReadyH.nil
                  go_simp
                  go_at_call 58; refine (lay_calls B (.slice Av xs.length cv) xs A2 c2 x wz.drew _ (Kd.R_drew HRV.out) hbw (fun W' hk => (Safe.step (S := fun k => some k = (Value.slice Av xs.length cv).ownBlock) (M1 := DM p (.slice (some ⟨gi, 0, none⟩) vals.length ci) (.slice At tvs.length ct) vals) (Safe.drew HF.out) hk HOV.out (fun _ h => Or.inl h)).now) (by omega) (by omega)).mono ?_; rintro e w1 ⟨v1, rfl, hR1, hat1, hk1, hb1⟩; obtain ⟨A7, c7, e7⟩ := Kd.R_slice hR1; rw [HN7.out] at hR1 e7; rw [HLL.out] at e7; subst e7; have hk1' : Kept wz w1 (fun k => some k = (Value.slice Av xs.length cv).ownBlock) := ⟨hk1.1, hk1.2⟩; have hb1' : Below B wz w1 := ⟨hb1.os, hb1.tape, hb1.output, hb1.size, hb1.block⟩; have hri1 := Kd.R_kept HD.out.d.ri hk1' (fun q h1 h2 => (HD.out.d.neI k _ HVK.out q h2.symm).1 h1); have hq := raw_cell hri1 k _ HVK.out; have q1 := hq.1; have q2 := hq.2.1; have y2' : w1.cell? ⟨p, 2, none⟩ = some (.slice (some ⟨gi, 0, none⟩) vals.length ci) := cell_kept y2 hk1' (fun h2 => (HD.out.d.neI k _ HVK.out p h2.symm).2.2 rfl); have xl' : w1.cell? (ad.add k) = some (.slice A2 x.length c2) := cell_kept xl hk1' (fun h2 => HAD.out (HOV.out _ ((hadb k) ▸ h2))); have HR1 := Aside0.mk hR1; have HAT1 := Aside0.mk hat1; have HK1 := Aside0.mk hk1'; have HB1 := Aside0.mk hb1'; have HRI1 := Aside0.mk hri1; clear y2 xl q0 f0 hk1 hb1 hR1 hat1 hk1' hb1' hri1 hq; have y2 := y2'; have xl := xl'; clear y2' xl'
                  refine hK.out _ _ ?_ (fun hHeld2 => ?_)
                  · (try dsimp only)
                    exact ⟨y2, xl⟩
                  clear hK K hHeld
                  have hHeld := hHeld2
                  clear hHeld2
                  (try simp only [Act.put, List.setIfInBounds_toArray, List.set_cons_zero, List.set_cons_succ])
                  refine wpAnyH_take (i := 17) (v := ?_) (by simp only [List.getElem?_toArray, List.getElem?_cons_succ, List.getElem?_cons_zero]; rfl) (by kernel_rfl) (by kernel_rfl) (by kernel_rfl) (by exact fun _ _ _ h => h) (Or.inl ⟨by rfl, ?_⟩) (by assumption) ?_
                  rotate_left
                  · intro w hSw
                    (try dsimp only at hSw)
                    go_simp
                    try with_reducible rfl
                  (try simp only [Act.put, List.setIfInBounds_toArray, List.set_cons_zero, List.set_cons_succ])
                  refine wpAnyH_ready (rs := [18]) (by kernel_rfl) (by simp) ?_
                  refine AllReadyH.cons (by simp only [List.getElem?_toArray, List.getElem?_cons_succ, List.getElem?_cons_zero]; rfl) (fun K hK => ?_) AllReadyH.nil
                  go_simp
                  refine hK.out _ _ ?_ (fun hHeld2 => ?_)
                  · (try dsimp only)
                    exact ⟨(World.cell?_setCell_far _ _ _ _ (show gi ≠ p from HGP.out)).trans y2, (World.cell?_setCell_far _ _ _ _ (show gi ≠ (ad.add k).block from HGA.out)).trans xl⟩
                  clear hK K hHeld
                  have hHeld := hHeld2
                  clear hHeld2
                  (try simp only [Act.put, List.setIfInBounds_toArray, List.set_cons_zero, List.set_cons_succ])
                  refine wpAnyH_done (by kernel_rfl) ?_ _
                  go_wp2
                  go_meet
                  have hset := raw_set HRI1.out k (by omega) (.slice A7 n7 c7) rfl
                  have hk2 : Kept w1 (w1.setCell ⟨gi, k, none⟩ (.slice A7 n7 c7)) (fun q => some q = (Value.slice (some ⟨gi, 0, none⟩) vals.length ci).ownBlock) := (Kept.refl _ _).of_grown hset.2 (fun q hq => Or.inl (by rw [← hq]; rfl))
                  have hd := HD.out.d.relay (W2 := w1.setCell ⟨gi, k, none⟩ (.slice A7 n7 c7)) HVK.out HK1.out HR1.out HAT1.out (by rw [HLL.out]; exact hrl) hk2 hset.1
                  refine ⟨A7, c7, ⟨HD.out.next hd ((HK1.out.mono (S' := fun q => some q = (Value.slice Av xs.length cv).ownBlock ∨ some q = (Value.slice (some ⟨gi, 0, none⟩) vals.length ci).ownBlock) (fun q hq => Or.inl hq)).then_ hk2 (fun q hq => Or.inl (Or.inr hq))) ?_ (DM.set HVK.out HAT1.out) (HB1.out.setCell (p := ⟨gi, k, none⟩) hg1 _)⟩⟩
                  rintro q (hq | hq)
                  · exact HOV.out q hq
                  · exact Or.inr ⟨_, by simp, hq.symm⟩
                case rest =>
                  clear HRV HF HVK HOV HAD HGP HGA HD q0 f0 xl y2
                  obtain ⟨A7, c7, HD⟩ := hcut
                  have hs := HL.out.step HD.out.k (fun _ h => h) (M1 := DM p (.slice (some ⟨gi, 0, none⟩) vals.length ci) (.slice At tvs.length ct) (vals.set k (.slice A7 n7 c7))) HD.out.m
                  obtain ⟨ad', cs, eA, _, hFK, hcell, hokb⟩ := Kd.F_get (show Kd.F (Kd.slice 28 k28) wc (fun q => ¬ DM p (.slice (some ⟨gi, 0, none⟩) vals.length ci) (.slice At tvs.length ct) (vals.set k (.slice A7 n7 c7)) q) (some ad) l.length l from hs) [] (k : Int) p1 p2
                  injection eA with eA
                  subst eA
                  obtain ⟨A2', c2', ecs, _, _⟩ := Kd.FK_slice_open hFK
                  subst ecs
                  have egd : l.getD (k : Int).toNat [] = x := by rw [Int.toNat_natCast, List.getD_eq_getElem?_getD, HLK.out]; rfl
                  have xl := hcell 0 _ rfl
                  rw [egd] at xl
                  rw [Int.toNat_natCast, show k * (Kd.slice 28 k28).sz + 0 = k from (show k * 1 + 0 = k by omega)] at xl
                  have hvs : (vals.set k (Value.slice A7 n7 c7))[k]? = some (.slice A7 n7 c7) := List.getElem?_set_self (by omega)
                  obtain ⟨q1, _, _, _⟩ := raw_cell HD.out.d.ri k _ hvs
                  obtain ⟨gt, cpt, et, ht1, ht2, _⟩ := Kd.R_form HD.out.d.rt (by rw [ones_len]; omega)
                  rw [ones_len, hts] at et
                  injection et with et1 et2 et3
                  subst et1; subst et3
                  have htk : ts[k]? = some (.slice none 0 0) := HLJ.out.2 k (Nat.le_refl _) (by omega)
                  obtain ⟨q3, f3, _, _⟩ := raw_cell HD.out.d.rt k _ htk
                  have y2 := blk_cell HD.out.d.hp 2
                  have y3 := blk_cell HD.out.d.hp 3
                  have hxr := Kd.R_reads' (HD.out.d.rows k _ (layA n7 x) hvs (List.getElem?_set_self (by have := HD.out.d.len; rw [List.length_set, List.length_set] at this; omega)))
                  have hnc : n7 ≤ c7 := hxr.2.1
                  have n1 : gt ≠ p := fun e => HD.out.d.neP.2 (by rw [← e]; rfl)
                  have n2 : gt ≠ gi := fun e => HD.out.d.it gi rfl (by rw [← e]; rfl)
                  have n3 : gt ≠ (ad.add k).block := fun e => (hokb (show 0 < 1 from by omega)) (Or.inr ⟨_, List.mem_cons_of_mem _ List.mem_cons_self, (by rw [show ad.block = gt from (hadb k).symm.trans e.symm]; rfl)⟩)
                  have n4 : gt ≠ ad.block := fun e => n3 (e.trans (hadb k).symm)
                  have xls : (wc.setCell ⟨gt, k, none⟩ (.slice A7 x.length c7)).cell? (ad.add k) = some (.slice A2' x.length c2') := (World.cell?_setCell_far _ _ _ _ (show gt ≠ (ad.add k).block from n3)).trans xl
                  have hxlen : x.length ≤ n7 := by omega
                  have i1 : (0 : Int) ≤ (x.length : Int) := by omega
                  have i2 : (x.length : Int) ≤ (n7 : Int) := by omega
                  have i3 : (x.length : Int) ≤ (c7 : Int) := by omega
                  have p4 : (k : Int) < (tvs.length : Int) := by omega
                  have hset := raw_set HD.out.d.rt k (by omega) (.slice A7 x.length c7) rfl
                  have hk1 : Kept wc (wc.setCell ⟨gt, k, none⟩ (.slice A7 x.length c7)) (fun q => some q = (Value.slice (some ⟨gt, 0, none⟩) tvs.length ct).ownBlock) := (Kept.refl _ _).of_grown hset.2 (fun q hq => Or.inl (by rw [← hq]; rfl))
                  have HN := Aside0.mk (HD.out.next (HD.out.d.put hk1 hset.1 (by rw [List.length_set]; exact HD.out.d.n2)) hk1 (fun q hq => Or.inr ⟨_, by simp, hq.symm⟩) (fun q hq => Or.inl hq) ((Below.refl B wc).setCell (p := ⟨gt, k, none⟩) ht1 _))
                  have HXL := Aside0.mk hxlen
                  clear hs hFK hcell hokb egd hvs htk hxr hset hk1 HD
                  go_wp2_with fail
                  go_region_held3 (fun w' => w'.cell? ⟨p, 2, none⟩ = some (.slice (some ⟨gi, 0, none⟩) vals.length ci) ∧ w'.cell? ⟨p, 3, none⟩ = some (.slice (some ⟨gt, 0, none⟩) tvs.length ct) ∧ w'.cell? ⟨gi, k, none⟩ = some (.slice A7 n7 c7) ∧ w'.cell? (ad.add k) = some (.slice A2' x.length c2')) (go_keep) (fail)
                  all_goals
                    go_wp2
                    exact ⟨⟨k + 1, vals.set k (.slice A7 n7 c7), xss.set k (layA n7 x), ts.set k (.slice A7 x.length c7), by go_num, by omega, by rw [List.length_set]; exact hts, by rw [List.length_set]; exact hge, ⟨by
                      have hlx : xss.length = vals.length := by have := HN.out.d.len; rw [List.length_set, List.length_set] at this; exact this.symm
                      refine ⟨fun i y hi hy => ?_, fun i h1 h2 => ?_⟩
                      · by_cases hik : i = k
                        · subst hik
                          rw [HLK.out] at hy
                          obtain rfl := Option.some.inj hy
                          exact ⟨A7, c7, n7, List.getElem?_set_self (by omega), List.getElem?_set_self (by omega), HXL.out, List.getElem?_set_self (by omega)⟩
                        · obtain ⟨B1, b1, m1, e1, e2, e3, e4⟩ := HLJ.out.1 i y (by omega) hy
                          have hki : k ≠ i := fun h => hik h.symm
                          exact ⟨B1, b1, m1, by rw [List.getElem?_set_ne hki]; exact e1, by rw [List.getElem?_set_ne hki]; exact e2, e3, by rw [List.getElem?_set_ne hki]; exact e4⟩
                      · rw [List.length_set] at h2
                        rw [List.getElem?_set_ne (by omega)]
                        exact HLJ.out.2 i (by omega) h2⟩, by rw [List.length_set]; exact ⟨HN.out.drew⟩⟩, by simp [intOf]; omega⟩
              · have hke2 : k = l.length := by omega
                have y3 := blk_cell HD.out.d.hp 3
                have hrt := Kd.R_reads' HD.out.d.rt
                have hct : tvs.length ≤ ct := hrt.2.1
                have i1 : (0 : Int) ≤ (l.length : Int) := by omega
                have i2 : (l.length : Int) ≤ (tvs.length : Int) := by omega
                have i3 : (l.length : Int) ≤ (ct : Int) := by omega
                have HLJ2 : Aside0 (LaidJ l l.length vals xss ts) := ⟨by have := HD.out.d.len; omega, by omega, by rw [← hke2]; exact HLJ.out.1, by rw [← hke2]; exact HLJ.out.2⟩
                clear hrt hke2
                go_wp2
                go_ret
                exact ⟨Ai, At, ci, ct, vals, xss, ts, rfl, by omega, HLJ2.out, by rw [hts]; exact HD.out⟩
end Go.Proofs.YtidcchopmbodkaaDoor.Sp
end
section
namespace Go.Proofs.YtidcchopmbodkaaDoor.Sp
open Go.RowKit Go.Proofs.YtidcchopmbodkaaDoorW.PrintWords Go.Proofs.YtidcchopmbodkaaDoorW.PrintLast Go.Proofs.YtidcchopmbodkaaDoorW.PrintMore
attribute [local go_sem] max2_int min2_int max_two min_two max_three min_three max_four min_four   -- for this text's walks alone
set_option linter.unusedVariables false
set_option linter.unusedSimpArgs false
def postbagref4_sound.f (a0 : Int) : Option (Bool) := if a0 ≥ 0 then (some (decide (a0 ≤ 4294967295))) else (some false)
set_option maxHeartbeats 8000000 in
set_option maxRecDepth 100000 in
theorem postbagref4_sound.calls (a0 : Int) (r : Bool) (w : World) (h : postbagref4_sound.f a0 = some r) :
  Calls Tryd.prog 54 #[.int .i64 a0] w fun e w' => e = .returned (.bool r) ∧ Drawn0 w w' := by
 have H : (if a0 ≥ 0 then (some (decide (a0 ≤ 4294967295))) else (some false)) = some r := h
 clear h
 by_cases c2 : a0 ≥ 0
 ·rw [if_pos c2] at H
  have c2b0 : decide (0 ≤ a0) = true := decide_eq_true c2
  clear c2
  obtain rfl := Option.some.inj H
  go_enter Tryd.func54, Tryd.ntmps54
  go_wp2
  go_ret
  exact ⟨by first | rfl | (simp; done) | (simp [*]; done), by repeat (first | exact Drawn0.refl _ | apply Drawn0.step)⟩
 ·rw [if_neg c2] at H
  have c2b0 : decide (0 ≤ a0) = false := decide_eq_false c2
  clear c2
  obtain rfl := Option.some.inj H
  go_enter Tryd.func54, Tryd.ntmps54
  go_wp2
  go_ret
  exact ⟨by first | rfl | (simp; done) | (simp [*]; done), by repeat (first | exact Drawn0.refl _ | apply Drawn0.step)⟩
end Go.Proofs.YtidcchopmbodkaaDoor.Sp
end
section
namespace Go.Proofs.YtidcchopmbodkaaDoor.Sp
open Go.RowKit Go.Proofs.YtidcchopmbodkaaDoorW.PrintWords Go.Proofs.YtidcchopmbodkaaDoorW.PrintLast Go.Proofs.YtidcchopmbodkaaDoorW.PrintMore
attribute [local go_sem] max2_int min2_int max_two min_two max_three min_three max_four min_four   -- for this text's walks alone
set_option linter.unusedVariables false
set_option linter.unusedSimpArgs false
end Go.Proofs.YtidcchopmbodkaaDoor.Sp
end
section
namespace Go.Proofs.YtidcchopmbodkaaDoor.Sp
open Go.RowKit Go.Proofs.YtidcchopmbodkaaDoorW.PrintWords Go.Proofs.YtidcchopmbodkaaDoorW.PrintLast Go.Proofs.YtidcchopmbodkaaDoorW.PrintMore
attribute [local go_sem] max2_int min2_int max_two min_two max_three min_three max_four min_four   -- for this text's walks alone
set_option linter.unusedVariables false
set_option linter.unusedSimpArgs false
attribute [local go_sem high] eqA28
end Go.Proofs.YtidcchopmbodkaaDoor.Sp
end
section
namespace Go.Proofs.YtidcchopmbodkaaDoor.Sp
open Go.RowKit Go.Proofs.YtidcchopmbodkaaDoorW.PrintWords Go.Proofs.YtidcchopmbodkaaDoorW.PrintLast Go.Proofs.YtidcchopmbodkaaDoorW.PrintMore
attribute [local go_sem] max2_int min2_int max_two min_two max_three min_three max_four min_four   -- for this text's walks alone
set_option linter.unusedVariables false
set_option linter.unusedSimpArgs false
attribute [local go_sem high] eqA28
def postbaglaw4_lies.l0 : Nat → List (S28) → List (S28) → Int → Option (Bool)
 | 0, _, _, _ => none
 | k + 1, x0, x1, x5 => if x5 < (x0.length : Int) then (if 0 ≤ x5 then (if (!(((rd_T28 x0 x5).f0) == (wrap64 ((-7) - x5))) || (!(((rd_T28 x0 x5).f1) == (-9)))) = true then (some false) else (postbaglaw4_lies.l0 k x0 x1 (wrap64 (x5 + 1)))) else (none)) else (if (x0.length : Int) ≥ (x1.length : Int) then (if 0 ≤ (x1.length : Int) then (if (x1.length : Int) ≤ (x0.length : Int) then ((postbaglaw4_same.f k (x0.take ((x1.length : Int) : Int).toNat) x1).bind fun t402 => (some t402)) else (none)) else (none)) else (some false))
def postbaglaw4_lies.f (k : Nat) (l0 : List (S28)) (l1 : List (S28)) : Option (Bool) := postbaglaw4_lies.l0 k l0 l1 (l1.length : Int)
set_option maxHeartbeats 8000000 in
set_option maxRecDepth 100000 in
theorem postbaglaw4_lies.calls (k : Nat) (A0 : Option Addr) (c0 : Nat) (l0 : List (S28)) (A1 : Option Addr) (c1 : Nat) (l1 : List (S28)) (r : Bool) (w : World) (hr0 : Kd.C k28 w A0 l0.length l0) (hc0 : l0.length ≤ c0) (hr1 : Kd.C k28 w A1 l1.length l1) (hc1 : l1.length ≤ c1) (h : postbaglaw4_lies.f k l0 l1 = some r) :
  Calls Tryd.prog 38 #[.slice A0 l0.length c0, .slice A1 l1.length c1] w fun e w' => e = .returned (.bool r) ∧ Drawn0 w w' := by
 have hu28 := Tryd.underlying28
 have HR0 := Aside0.mk hr0
 have HC0 := Aside0.mk hc0
 clear hr0 hc0
 have HR1 := Aside0.mk hr1
 have HC1 := Aside0.mk hc1
 clear hr1 hc1
 have H : (postbaglaw4_lies.l0 k l0 l1 (l1.length : Int)) = some r := h
 clear h
 have H' := Aside0.mk H
 clear H
 go_enter Tryd.func38, Tryd.ntmps38
 go_wp2
 go_loopg [5] k (fun kq v5 w' => ∃ (x5_1 : Int), v5 = .int .i64 x5_1 ∧ Aside0 (postbaglaw4_lies.l0 kq l0 l1 x5_1 = some r) ∧ Aside0 (kq ≤ k) ∧ Drawn0 w w')
 case atStart => exact ⟨((l1.length : Int)), (by first | rfl | (simp; done) | (simp [*]; done)), H', ⟨Nat.le_refl _⟩, by repeat (first | exact Drawn0.refl _ | apply Drawn0.step)⟩
 case round =>
  clear H'
  try clear c1
  try clear p2
  obtain ⟨x5_1, rfl, HA, HK1, ⟨m1, rfl⟩⟩ := hrel
  cases gk with
  | zero => exact absurd HA.out (by simp [postbaglaw4_lies.l0])
  | succ k1 =>
   have H := HA.out
   clear HA
   simp only [postbaglaw4_lies.l0] at H
   by_cases c3 : x5_1 < (l0.length : Int)
   ·rw [if_pos c3] at H
    have c3b0 : decide (x5_1 < (l0.length : Int)) = true := decide_eq_true c3
    clear c3
    by_cases c4 : 0 ≤ x5_1
    ·rw [if_pos c4] at H
     have c4b0 : decide (0 ≤ x5_1) = true := decide_eq_true c4
     clear c4
     by_cases c5 : (!(((rd_T28 l0 x5_1).f0) == (wrap64 ((-7) - x5_1))) || (!(((rd_T28 l0 x5_1).f1) == (-9)))) = true
     ·rw [if_pos c5] at H
      have c5b0 : (!(((rd_T28 l0 x5_1).f0) == (wrap64 ((-7) - x5_1))) || (!(((rd_T28 l0 x5_1).f1) == (-9)))) = true := c5
      clear c5
      obtain rfl := Option.some.inj H
      have p397 : 0 ≤ (x5_1 : Int) := of_decide_eq_true (by first | (with_reducible assumption) | assumption)
      have q397 : x5_1 < (l0.length : Int) := of_decide_eq_true (by first | (with_reducible assumption) | assumption)
      obtain ⟨ad397, e397, hx397_0, hx397_1⟩ := at_T28 HR0.out x5_1 p397 q397
      cases e397
      replace p397 := eq_true p397
      replace q397 := eq_true q397
      go_wp2
      go_ret
      exact ⟨by first | rfl | (simp; done) | (simp [*]; done), by repeat (first | exact Drawn0.refl _ | apply Drawn0.step)⟩
     ·rw [if_neg c5] at H
      have c5b0 : (!(((rd_T28 l0 x5_1).f0) == (wrap64 ((-7) - x5_1))) || (!(((rd_T28 l0 x5_1).f1) == (-9)))) = false := by simpa using c5
      clear c5
      have H' := Aside0.mk H
      clear H
      have p397 : 0 ≤ (x5_1 : Int) := of_decide_eq_true (by first | (with_reducible assumption) | assumption)
      have q397 : x5_1 < (l0.length : Int) := of_decide_eq_true (by first | (with_reducible assumption) | assumption)
      obtain ⟨ad397, e397, hx397_0, hx397_1⟩ := at_T28 HR0.out x5_1 p397 q397
      cases e397
      replace p397 := eq_true p397
      replace q397 := eq_true q397
      go_wp2
      go_roundg k1
      case measure => have := HK1.out; omega
      case rel => exact ⟨(wrap64 (x5_1 + 1)), (by first | rfl | (simp; done) | (simp [*]; done)), H', ⟨by have := HK1.out; omega⟩, by repeat (first | exact Drawn0.refl _ | apply Drawn0.step)⟩
    ·rw [if_neg c4] at H
     exact absurd H (by simp)
   ·rw [if_neg c3] at H
    have c3b0 : decide (x5_1 < (l0.length : Int)) = false := decide_eq_false c3
    clear c3
    by_cases c6 : (l0.length : Int) ≥ (l1.length : Int)
    ·rw [if_pos c6] at H
     have c6b0 : decide ((l1.length : Int) ≤ (l0.length : Int)) = true := decide_eq_true c6
     have c6b1 : decide (l1.length ≤ l0.length) = true := decide_eq_true (Int.ofNat_le.mp c6)
     clear c6
     by_cases c7 : 0 ≤ (l1.length : Int)
     ·rw [if_pos c7] at H
      have c7b0 := eq_true c7
      have c7b1 : decide (0 ≤ (l1.length : Int)) = true := decide_eq_true c7
      clear c7
      by_cases c8 : (l1.length : Int) ≤ (l0.length : Int)
      ·rw [if_pos c8] at H
       have c8b0 := eq_true c8
       have c8b1 : decide ((l1.length : Int) ≤ (l0.length : Int)) = true := decide_eq_true c8
       clear c8
       obtain ⟨y398, hy398⟩ : ∃ y_ : List (S28), y_ = (l0.take ((l1.length : Int) : Int).toNat) := ⟨_, rfl⟩
       replace H : ((postbaglaw4_same.f k1 y398 l1).bind fun t402 => (some t402)) = some r := by first | (rw [hy398]; with_reducible exact H) | (have H2_ := (Option.bind_some _ _).symm.trans H; rw [hy398]; with_reducible exact H2_) | (have H2_ := (Option.bind_some _ _).symm.trans H; with_reducible exact H2_) | with_reducible exact H | (rw [hy398]; exact H) | exact H
       have Ny398 := Aside0.mk hy398
       clear hy398
       replace H := Option.bind_eq_some_iff.mp H
       obtain ⟨t402, A90, H⟩ := H
       replace H : (some t402) = some r := H
       have A9 := Aside0.mk A90
       clear A90
       obtain rfl := Option.some.inj H
       have q10 : ((l1.length : Int) : Int) ≤ ((l0.length : Int) : Int) := of_decide_eq_true (by first | (with_reducible assumption) | assumption)
       obtain ⟨i010, hi010, _, hsz10, _⟩ := info_parts info28
       have hroom10 : l0.length ≤ c0 := HC0.out
       have hC10 : Kd.C k28 _ A0 l0.length l0 := HR0.out
       have hcut10 := cut_to (P := Tryd.prog) 23 28 .i64 Tryd.underlying23 hi010 A0 l0.length c0 (l1.length : Int) (of_decide_eq_true (by first | (with_reducible assumption) | assumption)) q10 hroom10
       have hr10 := Kd.C_take (m := ((l1.length : Int) : Int).toNat) hC10 (by omega)
       have hy10 : y398.length = ((l1.length : Int) : Int).toNat := (by rw [Ny398.out, List.length_take]; omega)
       rw [← Ny398.out] at hr10
       rw [← hy10] at hcut10
       have HR401 := Aside0.mk hr10
       have HC401 := Aside0.mk (show y398.length ≤ c0 from by omega)
       clear hr10 hC10 hroom10 hi010 hsz10
       have KY10 := Aside0.mk hy10
       clear hy10
       replace q10 := eq_true q10
       go_wp2_with (first | (go_at_call 26; (with_reducible refine (postbaglaw4_same.calls k1 _ _ y398 _ _ l1 t402 _ ?side1 ?side2 ?side3 ?side4 A9.out).mono ?_); (case side1 => repeat (first | exact HR401.out | (with_reducible refine Kd.C_alloc ?_ _) | (with_reducible refine Kd.C_drewN ?_ _) | (with_reducible refine Kd.C_drew ?_))); (case side2 => exact HC401.out); (case side3 => repeat (first | exact HR1.out | (with_reducible refine Kd.C_alloc ?_ _) | (with_reducible refine Kd.C_drewN ?_ _) | (with_reducible refine Kd.C_drew ?_))); (case side4 => exact HC1.out); rintro e w' ⟨rfl, ⟨nd, rfl⟩⟩))
       go_ret
       exact ⟨by first | rfl | (simp; done) | (simp [*]; done), by repeat (first | exact Drawn0.refl _ | apply Drawn0.step)⟩
      ·rw [if_neg c8] at H
       exact absurd H (by simp)
     ·rw [if_neg c7] at H
      exact absurd H (by simp)
    ·rw [if_neg c6] at H
     have c6b0 : decide ((l1.length : Int) ≤ (l0.length : Int)) = false := decide_eq_false c6
     have c6b1 : decide (l1.length ≤ l0.length) = false := decide_eq_false (fun h => c6 (Int.ofNat_le.mpr h))
     clear c6
     obtain rfl := Option.some.inj H
     go_wp2
     go_ret
     exact ⟨by first | rfl | (simp; done) | (simp [*]; done), by repeat (first | exact Drawn0.refl _ | apply Drawn0.step)⟩
end Go.Proofs.YtidcchopmbodkaaDoor.Sp
end
section
namespace Go.Proofs.YtidcchopmbodkaaDoor.Sp
open Go.RowKit Go.Proofs.YtidcchopmbodkaaDoorW.PrintWords Go.Proofs.YtidcchopmbodkaaDoorW.PrintLast Go.Proofs.YtidcchopmbodkaaDoorW.PrintMore
attribute [local go_sem] max2_int min2_int max_two min_two max_three min_three max_four min_four   -- for this text's walks alone
set_option linter.unusedVariables false
set_option linter.unusedSimpArgs false
attribute [local go_sem high] eqA28
def span_isRange.f (a0_0 : Int) (a0_1 : Int) : Option (Bool) := if (mn a0_0 a0_1) ≥ 0 then (some (decide ((mx a0_0 a0_1) ≤ 4294967295))) else (some false)
set_option maxHeartbeats 8000000 in
set_option maxRecDepth 100000 in
theorem span_isRange.calls (a0_0 : Int) (a0_1 : Int) (r : Bool) (w : World) (h : span_isRange.f a0_0 a0_1 = some r) :
  Calls Tryd.prog 49 #[.agg #[.int .i64 a0_0, .int .i64 a0_1]] w fun e w' => e = .returned (.bool r) ∧ Below w.heap.size w w' := by
 have hu28 := Tryd.underlying28
 have HB := Aside0.mk (Below.refl w.heap.size w)
 have H : (if (mn a0_0 a0_1) ≥ 0 then (some (decide ((mx a0_0 a0_1) ≤ 4294967295))) else (some false)) = some r := h
 clear h
 obtain ⟨ji2, hji2⟩ : ∃ j_ : Int, (mn a0_0 a0_1) = j_ := ⟨_, rfl⟩
 replace H : (if (ji2) ≥ 0 then (some (decide ((mx a0_0 a0_1) ≤ 4294967295))) else (some false)) = some r := by first | (rw [hji2] at H; exact H) | (simp only [hji2] at H ⊢; exact H)
 have hji2_ : (if a0_1 < a0_0 then a0_1 else a0_0) = ji2 := hji2
 by_cases c3 : (ji2) ≥ 0
 ·rw [if_pos c3] at H
  have c3b0 : decide (0 ≤ (ji2)) = true := decide_eq_true c3
  clear c3
  obtain ⟨ji4, hji4⟩ : ∃ j_ : Int, (mx a0_0 a0_1) = j_ := ⟨_, rfl⟩
  replace H : (some (decide ((ji4) ≤ 4294967295))) = some r := by first | (rw [hji4] at H; exact H) | (simp only [hji4] at H ⊢; exact H)
  have hji4_ : (if a0_0 < a0_1 then a0_1 else a0_0) = ji4 := hji4
  obtain rfl := Option.some.inj H
  go_enter Tryd.func49, Tryd.ntmps49
  go_wp2_with (first | ((with_reducible refine gate_dst (N := 1) rfl ?_); (try (refine gate_guard (by rfl) ?_; dsimp only)); refine box_event ?hg (N := 1) ?hd (cs := #[.int .i64 a0_0, .int .i64 a0_1]) (t := 28) ?hr ?_; (case hd => rfl); (case hg => rfl); (case hr => first | (go_simp; done) | (go_simp; rfl)); intro gb122 hg w5 hbox hb; have n0_ := Aside0.mk (below_step (by repeat (first | (with_reducible first | exact HB.out | apply below_alloc | apply pw_below_drewN | apply below_drew1) | exact HB.out)) hb); have n1_ := Aside0.mk (hbox); have n2_ := Aside0.mk ((by rw [hg]; exact (below_size (by repeat (first | (with_reducible first | exact HB.out | apply below_alloc | apply pw_below_drewN | apply below_drew1) | exact HB.out))) : w.heap.size ≤ gb122)); have n3_ := Aside0.mk ((by rw [hg]; exact (below_size (by repeat (first | (with_reducible first | exact HB.out | apply below_alloc | apply pw_below_drewN | apply below_drew1) | exact HB.out))) : w.heap.size ≤ gb122)); clear HB; have HB := n0_; have BK122 := n1_; have GW122 := n2_; have GE122 := n3_; clear n0_ n1_ n2_ n3_; clear hb hbox hg; have hcz6_0 : w5.cell? ⟨gb122, 0, none⟩ = some (.int .i64 a0_0) := (blk_cell BK122.out 0).trans rfl; have hcz6_1 : w5.cell? ⟨gb122, 1, none⟩ = some (.int .i64 a0_1) := (blk_cell BK122.out 1).trans rfl; have hfz6_0 := blk_frozen BK122.out 0; have hfz6_1 := blk_frozen BK122.out 1))
  go_ret
  exact ⟨by first | rfl | (simp [errW_none, errW_some] <;> rfl) | (simp only [← hji2, ← hji4]; first | rfl | (simp [errW_none, errW_some] <;> rfl)) | (simp [*, errW_none, errW_some] <;> rfl), by repeat (first | (with_reducible first | exact HB.out | apply below_alloc | apply pw_below_drewN | apply below_drew1 | refine below_set ?_ GE122.out) | exact HB.out)⟩
 ·rw [if_neg c3] at H
  have c3b0 : decide (0 ≤ (ji2)) = false := decide_eq_false c3
  clear c3
  obtain rfl := Option.some.inj H
  go_enter Tryd.func49, Tryd.ntmps49
  go_wp2_with (first | ((with_reducible refine gate_dst (N := 1) rfl ?_); (try (refine gate_guard (by rfl) ?_; dsimp only)); refine box_event ?hg (N := 1) ?hd (cs := #[.int .i64 a0_0, .int .i64 a0_1]) (t := 28) ?hr ?_; (case hd => rfl); (case hg => rfl); (case hr => first | (go_simp; done) | (go_simp; rfl)); intro gb122 hg w7 hbox hb; have n0_ := Aside0.mk (below_step (by repeat (first | (with_reducible first | exact HB.out | apply below_alloc | apply pw_below_drewN | apply below_drew1) | exact HB.out)) hb); have n1_ := Aside0.mk (hbox); have n2_ := Aside0.mk ((by rw [hg]; exact (below_size (by repeat (first | (with_reducible first | exact HB.out | apply below_alloc | apply pw_below_drewN | apply below_drew1) | exact HB.out))) : w.heap.size ≤ gb122)); have n3_ := Aside0.mk ((by rw [hg]; exact (below_size (by repeat (first | (with_reducible first | exact HB.out | apply below_alloc | apply pw_below_drewN | apply below_drew1) | exact HB.out))) : w.heap.size ≤ gb122)); clear HB; have HB := n0_; have BK122 := n1_; have GW122 := n2_; have GE122 := n3_; clear n0_ n1_ n2_ n3_; clear hb hbox hg; have hcz8_0 : w7.cell? ⟨gb122, 0, none⟩ = some (.int .i64 a0_0) := (blk_cell BK122.out 0).trans rfl; have hcz8_1 : w7.cell? ⟨gb122, 1, none⟩ = some (.int .i64 a0_1) := (blk_cell BK122.out 1).trans rfl; have hfz8_0 := blk_frozen BK122.out 0; have hfz8_1 := blk_frozen BK122.out 1))
  go_ret
  exact ⟨by first | rfl | (simp [errW_none, errW_some] <;> rfl) | (simp only [← hji2]; first | rfl | (simp [errW_none, errW_some] <;> rfl)) | (simp [*, errW_none, errW_some] <;> rfl), by repeat (first | (with_reducible first | exact HB.out | apply below_alloc | apply pw_below_drewN | apply below_drew1 | refine below_set ?_ GE122.out) | exact HB.out)⟩
end Go.Proofs.YtidcchopmbodkaaDoor.Sp
end
section
namespace Go.Proofs.YtidcchopmbodkaaDoor.Sp
open Go.RowKit Go.Proofs.YtidcchopmbodkaaDoorW.PrintWords Go.Proofs.YtidcchopmbodkaaDoorW.PrintLast Go.Proofs.YtidcchopmbodkaaDoorW.PrintMore
structure Laid (w : World) : Prop where
  tab : Lib.TabIs Tryd.prog w "internal/strconv.uint64pow10" .u64 Lib.pow10Tab
theorem laid_below {w w1 : World} (h : Laid w) (hb : Below w.heap.size w w1) : Laid w1 := by
  have h := h.tab
  refine ⟨?_⟩
  unfold Lib.TabIs World.var? at h ⊢
  cases hg : Tryd.prog.globalNamed "internal/strconv.uint64pow10" with
  | none => rw [hg] at h; cases h
  | some g =>
    rw [hg] at h
    simp only [Option.bind_some] at h ⊢
    have hlt : g < w.heap.size := by
      rcases Nat.lt_or_ge g w.heap.size with h' | h'
      · exact h'
      · rw [Array.getElem?_eq_none h'] at h; cases h
    rw [hb.block g hlt]
    exact h
theorem laid_drawn {w w1 : World} (h : Laid w) (hd : Drawn0 w w1) : Laid w1 := laid_below h hd.below
theorem below_grow (w : World) (k : Nat) (os : Array Obj) : Below w.heap.size w (Sort.grow (w.drewN k) os) :=
  ⟨rfl, rfl, rfl, by simp [Sort.grow], fun i hi => by show (w.heap ++ os)[i]? = w.heap[i]?; exact Array.getElem?_append_left hi⟩
def span_word.f (a0 : Int) : Option ByteArray := if a0 = 0 then some ⟨#[42]⟩ else if -9223372036854775808 ≤ a0 ∧ a0 ≤ 9223372036854775807 then some ⟨(Lib.itoa a0).toArray⟩ else none
theorem span_word.calls (a0 : Int) (r : ByteArray) (w : World) (h : span_word.f a0 = some r) (hL : Laid w) :
    Calls Tryd.prog 56 #[.int .i64 a0] w fun e w' => e = .returned (.string r) ∧ Below w.heap.size w w' := by
  unfold span_word.f at h
  by_cases h0 : a0 = 0
  · rw [if_pos h0] at h
    injection h with h; subst h; subst h0
    go_enter Tryd.func56, Tryd.ntmps56
    go_wp2
    go_ret
    exact ⟨rfl, Below.refl _ _⟩
  · rw [if_neg h0] at h
    split at h
    · rename_i h1
      obtain rfl := Option.some.inj h
      clear h
      have h2 : (a0 == 0) = false := by simpa using h0
      have hcon := Shl.strconv_Itoa a0 h1.1 h1.2 w hL.tab
      generalize (⟨(Lib.itoa a0).toArray⟩ : ByteArray) = t at *
      clear hL h1
      go_enter Tryd.func56, Tryd.ntmps56
      go_wp2_with (go_at_call 66; refine hcon.mono ?_; rintro e w' ⟨rfl, k, os, rfl⟩)
      go_ret
      exact ⟨rfl, below_grow _ _ _⟩
    · cases h
theorem cs_form {w : World} {A : Option Addr} {l : List ByteArray} (h : Kd.C Kd.string w A l.length l) (hn : 0 < l.length) :
    ∃ b off, A = some ⟨b, off, none⟩ ∧ b < w.heap.size ∧ ∀ (j : Nat) (x : ByteArray), l[j]? = some x → w.cell? ⟨b, off + j, none⟩ = some (.string x) := by
  obtain ⟨_, _, h3⟩ := h
  obtain ⟨ad, rfl, hc⟩ := h3 hn
  obtain ⟨b, off, sp⟩ := ad
  have key : ∀ j (x : ByteArray), l[j]? = some x → w.cell? (Addr.add ⟨b, off, sp⟩ j) = some (.string x) := by
    intro j x hx
    obtain ⟨c, _, hk, hcell⟩ := hc j x hx
    have hk : c = [.string x] := hk
    subst hk
    have := hcell 0 _ rfl
    rwa [show Kd.string.sz = 1 from rfl, Nat.mul_one, Nat.add_zero] at this
  have hl : ∃ x, l[0]? = some x := ⟨l[0]'hn, List.getElem?_eq_getElem hn⟩
  obtain ⟨x, hx⟩ := hl
  have k0 := key 0 x hx
  have hs : sp = none := by
    cases sp with
    | none => rfl
    | some s =>
      exfalso
      have e : Addr.add ⟨b, off, some s⟩ 0 = ⟨b, off, some s⟩ := rfl
      rw [e] at k0
      unfold World.cell? at k0
      split at k0
      · simp at k0
      · cases k0
  subst hs
  have e : ∀ k, Addr.add ⟨b, off, none⟩ k = ⟨b, off + k, none⟩ := fun k => by
    unfold Addr.add
    split
    · rename_i h0; subst h0; rfl
    · rfl
  refine ⟨b, off, rfl, ?_, fun j x hx => ?_⟩
  · rw [e] at k0
    exact World.block_lt_of_cell? w _ k0
  · have := key j x hx
    rw [e] at this
    exact this
def joinB (l : List ByteArray) (sep : ByteArray) : ByteArray := ⟨(Lib.join (l.map (·.data.toList)) sep.data.toList).toArray⟩
def strings_Join.f (l0 : List ByteArray) (a1 : ByteArray) : Option ByteArray := if l0.length ≤ 140737488355328 ∧ (joinB l0 a1).size ≤ 140737488355328 then some (joinB l0 a1) else none
theorem strings_Join.calls (A0 : Option Addr) (c0 : Nat) (l0 : List ByteArray) (a1 r : ByteArray) (w : World) (hr0 : Kd.C Kd.string w A0 l0.length l0) (hc0 : l0.length ≤ c0) (h : strings_Join.f l0 a1 = some r) :
    Calls Tryd.prog 57 #[.slice A0 l0.length c0, .string a1] w fun e w' => e = .returned (.string r) ∧ Below w.heap.size w w' := by
  unfold strings_Join.f at h
  split at h
  · rename_i hb
    obtain rfl := Option.some.inj h
    by_cases h0 : l0.length = 0
    · have e : l0 = [] := List.length_eq_zero_iff.1 h0
      subst e
      exact (Shl.strings_Join_none A0 c0 a1 w).mono fun e w' ⟨he, hw⟩ => ⟨he, hw ▸ Below.refl _ _⟩
    · obtain ⟨b, off, rfl, hbk, hc⟩ := cs_form hr0 (by omega)
      exact Shl.strings_Join b off c0 l0 a1 w hc hbk hb.1 hc0 hb.2
  · cases h
end Go.Proofs.YtidcchopmbodkaaDoor.Sp
end
section
namespace Go.Proofs.YtidcchopmbodkaaDoor.Sp
open Go.RowKit Go.Proofs.YtidcchopmbodkaaDoorW.PrintWords Go.Proofs.YtidcchopmbodkaaDoorW.PrintLast Go.Proofs.YtidcchopmbodkaaDoorW.PrintMore
attribute [local go_sem] max2_int min2_int max_two min_two max_three min_three max_four min_four   -- for this text's walks alone
set_option linter.unusedVariables false
set_option linter.unusedSimpArgs false
def span_Print.l0 : Nat → List ByteArray → List (S28) → Int → Int → Option (ByteArray × Int)
 | 0, _, _, _, _ => none
 | k + 1, x4, x10, x11, x12 => if x12 < x11 then (if 0 ≤ x12 then (if x12 < (x10.length : Int) then ((span_isRange.f ((rd_T28 x10 x12).f0) ((rd_T28 x10 x12).f1)).bind fun t150 => (if t150 = true then (if ((rd_T28 x10 x12).f0) = ((rd_T28 x10 x12).f1) then ((span_word.f ((rd_T28 x10 x12).f0)).bind fun t151 => (if x4.length < 8796093022208 then (span_Print.l0 k (x4 ++ [t151]) x10 x11 (wrap64 (x12 + 1))) else (none))) else ((span_word.f ((rd_T28 x10 x12).f0)).bind fun t155 => (if t155.size + 1 ≤ 9223372036854775807 then ((span_word.f ((rd_T28 x10 x12).f1)).bind fun t156 => (if (t155 ++ (⟨#[58]⟩ : ByteArray)).size + t156.size ≤ 9223372036854775807 then (if x4.length < 8796093022208 then (span_Print.l0 k (x4 ++ [(t155 ++ (⟨#[58]⟩ : ByteArray)) ++ t156]) x10 x11 (wrap64 (x12 + 1))) else (none)) else (none))) else (none)))) else (some ((⟨#[]⟩ : ByteArray), 40)))) else (none)) else (none)) else (if (x4.length : Int) = 0 then (some ((⟨#[]⟩ : ByteArray), 40)) else ((strings_Join.f x4 (⟨#[44]⟩ : ByteArray)).bind fun t147 => (some (t147, 0))))
def span_Print.f (k : Nat) (l0 : List (S28)) : Option (ByteArray × Int) := if (l0.length : Int) > 64 then (some ((⟨#[]⟩ : ByteArray), 41)) else (span_Print.l0 k ([] : List ByteArray) l0 (l0.length : Int) 0)
def span_Print.T11 : Bool × List (List Nat × List Nat) := (true, [([], []), ([], []), ([1], [1]), ([2], [2]), ([3], [3]), ([], []), ([5], [5]), ([6, 3], [6]), ([4, 7], [4, 7]), ([8], [8]), ([0, 9, 7], [0, 9]), ([10, 10, 0, 1, 2, 3, 4, 5, 6, 7, 8, 9, 10], [0, 10])])
def span_Print.B11 : List Nat := [0, 0, 2, 6, 14, 0, 32, 110, 254, 510, 1023, 2047]
theorem span_Print.tab11 : rtab .any (opsOf Tryd.f36 11) = span_Print.T11 := by kernel_rfl
theorem span_Print.bits11 : waitsOk span_Print.T11.2 span_Print.B11 = true := by kernel_rfl
set_option maxHeartbeats 8000000 in
set_option maxRecDepth 100000 in
theorem span_Print.calls (k : Nat) (A0 : Option Addr) (c0 : Nat) (l0 : List (S28)) (r1 : ByteArray) (r2 : Int) (w : World) (hr0 : Kd.C k28 w A0 l0.length l0) (hc0 : l0.length ≤ c0) (h : span_Print.f k l0 = some (r1, r2)) (hL_ : Laid w) :
  Calls Tryd.prog 36 #[.slice A0 l0.length c0] w fun e w' => e = .returned (.tuple #[.string r1, .int .i64 r2]) ∧ Below w.heap.size w w' := by
 have HL_ := Aside0.mk hL_
 clear hL_
 have hu28 := Tryd.underlying28
 have HR0 := Aside0.mk hr0
 have HC0 := Aside0.mk hc0
 clear hr0 hc0
 have HB := Aside0.mk (Below.refl w.heap.size w)
 have H : (if (l0.length : Int) > 64 then (some ((⟨#[]⟩ : ByteArray), 41)) else (span_Print.l0 k ([] : List ByteArray) l0 (l0.length : Int) 0)) = some (r1, r2) := h
 clear h
 by_cases c2 : (l0.length : Int) > 64
 ·rw [if_pos c2] at H
  have c2b0 : decide (64 < (l0.length : Int)) = true := decide_eq_true c2
  have c2b1 : decide (64 < l0.length) = true := decide_eq_true (by omega)
  clear c2
  simp only [Option.some.injEq, Prod.mk.injEq] at H
  obtain ⟨rfl, rfl⟩ := H
  go_enter Tryd.func36, Tryd.ntmps36
  go_wp2
  go_ret2
  exact ⟨by first | rfl | (simp [errW_none, errW_some] <;> rfl) | (simp [*, errW_none, errW_some] <;> rfl), by repeat (first | (with_reducible first | exact HB.out | apply below_alloc | apply pw_below_drewN | apply below_drew1) | exact HB.out)⟩
 ·rw [if_neg c2] at H
  have c2b0 : decide (64 < (l0.length : Int)) = false := decide_eq_false c2
  have c2b1 : decide (64 < l0.length) = false := decide_eq_false (by omega)
  clear c2
  have H' := Aside0.mk H
  clear H
  go_enter Tryd.func36, Tryd.ntmps36
  go_wp2
  go_loopg [4, 12] k (fun kq v4 v12 w' => ∃ (x4_1 : List ByteArray) (x12_1 : Int), v12 = .int .i64 x12_1 ∧ Aside0 (span_Print.l0 kq x4_1 l0 (l0.length : Int) x12_1 = some (r1, r2)) ∧ Aside0 (kq ≤ k) ∧ Aside0 (Kd.R Kd.string 9 w' w.heap.size (fun _ => True) v4 x4_1) ∧ Aside0 (Below w.heap.size w w'))
  case atStart => exact ⟨(([] : List ByteArray)), (0), (by first | rfl | (simp; done) | (simp [*]; done)), H', ⟨Nat.le_refl _⟩, ⟨by first | exact Kd.R_nil _ _ _ _ _ | exact Kd.N_nil _ _ _ _ _ | exact Kd.V_nil _ _ _ _ _ | exact Kd.Q_nil _ _ _ _ _ | exact Kd.S_nil _ _ _ _ _⟩, ⟨by repeat (first | (with_reducible first | exact HB.out | apply below_alloc | apply pw_below_drewN | apply below_drew1) | exact HB.out)⟩⟩
  case round =>
   clear H'
   try clear c2
   try clear c2b0
   try clear c2b1
   try clear p2
   obtain ⟨x4_1, x12_1, rfl, HA, HK1, HO_4, HB⟩ := hrel
   cases gk with
   | zero => exact absurd HA.out (by simp [span_Print.l0])
   | succ k1 =>
    have H := HA.out
    clear HA
    simp only [span_Print.l0] at H
    by_cases c3 : x12_1 < (l0.length : Int)
    ·rw [if_pos c3] at H
     have c3b0 : decide (x12_1 < (l0.length : Int)) = true := decide_eq_true c3
     clear c3
     by_cases c4 : 0 ≤ x12_1
     ·rw [if_pos c4] at H
      have c4b0 : decide (0 ≤ x12_1) = true := decide_eq_true c4
      clear c4
      by_cases c5 : x12_1 < (l0.length : Int)
      ·rw [if_pos c5] at H
       have c5b0 : decide (x12_1 < (l0.length : Int)) = true := decide_eq_true c5
       clear c5
       replace H := Option.bind_eq_some_iff.mp H
       obtain ⟨t150, A60, H⟩ := H
       replace H : (if t150 = true then (if ((rd_T28 l0 x12_1).f0) = ((rd_T28 l0 x12_1).f1) then ((span_word.f ((rd_T28 l0 x12_1).f0)).bind fun t151 => (if x4_1.length < 8796093022208 then (span_Print.l0 k1 (x4_1 ++ [t151]) l0 (l0.length : Int) (wrap64 (x12_1 + 1))) else (none))) else ((span_word.f ((rd_T28 l0 x12_1).f0)).bind fun t155 => (if t155.size + 1 ≤ 9223372036854775807 then ((span_word.f ((rd_T28 l0 x12_1).f1)).bind fun t156 => (if (t155 ++ (⟨#[58]⟩ : ByteArray)).size + t156.size ≤ 9223372036854775807 then (if x4_1.length < 8796093022208 then (span_Print.l0 k1 (x4_1 ++ [(t155 ++ (⟨#[58]⟩ : ByteArray)) ++ t156]) l0 (l0.length : Int) (wrap64 (x12_1 + 1))) else (none)) else (none))) else (none)))) else (some ((⟨#[]⟩ : ByteArray), 40))) = some (r1, r2) := H
       have A6 := Aside0.mk A60
       clear A60
       by_cases c7 : t150 = true
       ·subst c7
        have H1 : (if ((rd_T28 l0 x12_1).f0) = ((rd_T28 l0 x12_1).f1) then ((span_word.f ((rd_T28 l0 x12_1).f0)).bind fun t151 => (if x4_1.length < 8796093022208 then (span_Print.l0 k1 (x4_1 ++ [t151]) l0 (l0.length : Int) (wrap64 (x12_1 + 1))) else (none))) else ((span_word.f ((rd_T28 l0 x12_1).f0)).bind fun t155 => (if t155.size + 1 ≤ 9223372036854775807 then ((span_word.f ((rd_T28 l0 x12_1).f1)).bind fun t156 => (if (t155 ++ (⟨#[58]⟩ : ByteArray)).size + t156.size ≤ 9223372036854775807 then (if x4_1.length < 8796093022208 then (span_Print.l0 k1 (x4_1 ++ [(t155 ++ (⟨#[58]⟩ : ByteArray)) ++ t156]) l0 (l0.length : Int) (wrap64 (x12_1 + 1))) else (none)) else (none))) else (none)))) = some (r1, r2) := by rw [if_pos rfl] at H; exact H
        clear H
        have H := H1
        clear H1
        by_cases c8 : ((rd_T28 l0 x12_1).f0) = ((rd_T28 l0 x12_1).f1)
        ·rw [if_pos c8] at H
         have c8b0 : (((rd_T28 l0 x12_1).f0) == ((rd_T28 l0 x12_1).f1)) = true := beq_iff_eq.mpr c8
         have c8b1 : (((rd_T28 l0 x12_1).f0) != ((rd_T28 l0 x12_1).f1)) = false := bne_eq_false_iff_eq.mpr c8
         clear c8
         replace H := Option.bind_eq_some_iff.mp H
         obtain ⟨t151, A90, H⟩ := H
         replace H : (if x4_1.length < 8796093022208 then (span_Print.l0 k1 (x4_1 ++ [t151]) l0 (l0.length : Int) (wrap64 (x12_1 + 1))) else (none)) = some (r1, r2) := H
         have A9 := Aside0.mk A90
         clear A90
         by_cases c10 : x4_1.length < 8796093022208
         ·rw [if_pos c10] at H
          have LMc10 := Aside0.mk c10
          clear c10
          obtain ⟨y152, hy152⟩ : ∃ y_ : List ByteArray, y_ = (x4_1 ++ [t151]) := ⟨_, rfl⟩
          replace H : (span_Print.l0 k1 y152 l0 (l0.length : Int) (wrap64 (x12_1 + 1))) = some (r1, r2) := by first | (rw [hy152]; with_reducible exact H) | (have H2_ := (Option.bind_some _ _).symm.trans H; rw [hy152]; with_reducible exact H2_) | (have H2_ := (Option.bind_some _ _).symm.trans H; with_reducible exact H2_) | with_reducible exact H | (rw [hy152]; exact H) | exact H
          have Ny152 := Aside0.mk hy152
          clear hy152
          have H' := Aside0.mk H
          clear H
          have p148 : 0 ≤ (x12_1 : Int) := of_decide_eq_true (by first | (with_reducible assumption) | assumption)
          have q148 : x12_1 < (l0.length : Int) := of_decide_eq_true (by first | (with_reducible assumption) | assumption)
          obtain ⟨ad148, e148, hx148_0, hx148_1⟩ := at_T28 HR0.out x12_1 p148 q148
          cases e148
          replace hx148_0 := (HB.out.cell (World.block_lt_of_cell? w _ hx148_0)).trans hx148_0
          replace hx148_1 := (HB.out.cell (World.block_lt_of_cell? w _ hx148_1)).trans hx148_1
          replace p148 := eq_true p148
          replace q148 := eq_true q148
          go_wp2_with (first | ((with_reducible refine gate_dst (N := 6) rfl ?_); refine box_event ?hg (N := 6) ?hd (cs := #[.int .i64 0, .int .i64 0]) (t := 28) ?hr ?_; (case hd => rfl); (case hg => rfl); (case hr => first | (go_simp; done) | (go_simp; rfl)); intro gb149 hg w11 hbox hb; have n0_ := Aside0.mk (Kd.R_below (by (with_reducible repeat (first | apply Kd.R_alloc | apply Kd.R_drewN | apply Kd.R_drew)); exact HO_4.out) hb); have n1_ := Aside0.mk (below_step (by repeat (first | (with_reducible first | exact HB.out | apply below_alloc | apply pw_below_drewN | apply below_drew1) | exact HB.out)) hb); have n2_ := Aside0.mk (hbox); have n3_ := Aside0.mk ((by rw [hg]; exact (below_size (by repeat (first | (with_reducible first | exact HB.out | apply below_alloc | apply pw_below_drewN | apply below_drew1) | exact HB.out))) : w.heap.size ≤ gb149)); have n4_ := Aside0.mk ((by rw [hg]; exact (below_size (by repeat (first | (with_reducible first | exact HB.out | apply below_alloc | apply pw_below_drewN | apply below_drew1) | exact HB.out))) : w.heap.size ≤ gb149)); clear HO_4; clear HB; have HO_4 := n0_; have HB := n1_; have BK149 := n2_; have GW149 := n3_; have GE149 := n4_; clear n0_ n1_ n2_ n3_ n4_; clear hb hbox hg; have hcz12_0 : w11.cell? ⟨gb149, 0, none⟩ = some (.int .i64 0) := (blk_cell BK149.out 0).trans rfl; have hcz12_1 : w11.cell? ⟨gb149, 1, none⟩ = some (.int .i64 0) := (blk_cell BK149.out 1).trans rfl; have hfz12_0 := blk_frozen BK149.out 0; have hfz12_1 := blk_frozen BK149.out 1) | ((with_reducible refine gate_callee (f := 49) rfl ?_); refine goesL_ (some 17) rfl rfl Tryd.func49 (by kernel_rfl) rfl #[.agg #[.int .i64 ((rd_T28 l0 x12_1).f0), .int .i64 ((rd_T28 l0 x12_1).f1)]] rfl (by (try simp only [List.map_toArray, List.map_cons, List.map_nil]); first | done | rfl | (simp only [List.length_drop, List.length_take]; rfl)) ?_; (with_reducible refine (span_isRange.calls ((rd_T28 l0 x12_1).f0) ((rd_T28 l0 x12_1).f1) true _ A6.out).mono ?_); rintro e w13 ⟨rfl, hb⟩; refine ⟨_, rfl, ?_⟩; have n0_ := Aside0.mk (Kd.R_below (by (with_reducible repeat (first | apply Kd.R_alloc | apply Kd.R_drewN | apply Kd.R_drew)); exact (Kd.R_mono (Kd.R_far (p := ⟨gb149, 1, none⟩) (Kd.R_far (p := ⟨gb149, 0, none⟩) (Kd.R_types HO_4.out BK149.out (by decide)) (fun _ hk => hk.2) (.int .i64 ((rd_T28 l0 x12_1).f0))) (fun _ hk => hk.2) (.int .i64 ((rd_T28 l0 x12_1).f1))) (fun _ h_ => h_.1))) hb); have n1_ := Aside0.mk (blk_below (g := gb149) (o := .cells #[.int .i64 ((rd_T28 l0 x12_1).f0), .int .i64 ((rd_T28 l0 x12_1).f1)] 28 (0, 0)) (by (with_reducible repeat (first | refine blk_drewN ?_ _ | refine blk_drew ?_ | refine blk_alloc ?_ _)); refine blk_put (cs := #[.int .i64 ((rd_T28 l0 x12_1).f0), .int .i64 0]) ?_ 1 _ rfl; (with_reducible repeat (first | refine blk_drewN ?_ _ | refine blk_drew ?_ | refine blk_alloc ?_ _)); refine blk_put (cs := #[.int .i64 0, .int .i64 0]) ?_ 0 _ rfl; (with_reducible repeat (first | refine blk_drewN ?_ _ | refine blk_drew ?_ | refine blk_alloc ?_ _)); exact BK149.out) hb); have n2_ := Aside0.mk (below_step (by repeat (first | (with_reducible first | exact HB.out | apply below_alloc | apply pw_below_drewN | apply below_drew1 | refine below_set ?_ GE149.out) | exact HB.out)) hb); clear HO_4; clear BK149; clear HB; have HO_4 := n0_; have BK149 := n1_; have HB := n2_; clear n0_ n1_ n2_; (try clear hb); (try clear hb2); (try clear hk); (try clear hi); have hcz14_0 : w13.cell? ⟨gb149, 0, none⟩ = some (.int .i64 ((rd_T28 l0 x12_1).f0)) := (blk_cell BK149.out 0).trans rfl; have hcz14_1 : w13.cell? ⟨gb149, 1, none⟩ = some (.int .i64 ((rd_T28 l0 x12_1).f1)) := (blk_cell BK149.out 1).trans rfl; have hfz14_0 := blk_frozen BK149.out 0; have hfz14_1 := blk_frozen BK149.out 1) | ((with_reducible refine gate_callee (f := 56) rfl ?_); refine goesL_ (some 27) rfl rfl Tryd.func56 (by kernel_rfl) rfl #[.int .i64 ((rd_T28 l0 x12_1).f0)] rfl (by (try simp only [List.map_toArray, List.map_cons, List.map_nil]); first | done | rfl | (simp only [List.length_drop, List.length_take]; rfl)) ?_; (with_reducible refine (span_word.calls ((rd_T28 l0 x12_1).f0) t151 _ A9.out (by first | exact laid_below HL_.out (by repeat (first | (with_reducible first | exact HB.out | apply below_alloc | apply pw_below_drewN | apply below_drew1) | exact HB.out)) | exact laid_drawn HL_.out (by repeat (first | exact Drawn0.refl _ | apply Drawn0.step)))).mono ?_); rintro e w15 ⟨rfl, hb⟩; refine ⟨_, rfl, ?_⟩; have n0_ := Aside0.mk (Kd.R_below (by (with_reducible repeat (first | apply Kd.R_alloc | apply Kd.R_drewN | apply Kd.R_drew)); exact HO_4.out) hb); have n1_ := Aside0.mk (blk_below (g := gb149) (o := .cells #[.int .i64 ((rd_T28 l0 x12_1).f0), .int .i64 ((rd_T28 l0 x12_1).f1)] 28 (0, 0)) (by (with_reducible repeat (first | refine blk_drewN ?_ _ | refine blk_drew ?_ | refine blk_alloc ?_ _)); exact BK149.out) hb); have n2_ := Aside0.mk (below_step (by repeat (first | (with_reducible first | exact HB.out | apply below_alloc | apply pw_below_drewN | apply below_drew1 | refine below_set ?_ GE149.out) | exact HB.out)) hb); clear HO_4; clear BK149; clear HB; have HO_4 := n0_; have BK149 := n1_; have HB := n2_; clear n0_ n1_ n2_; (try clear hb); (try clear hb2); (try clear hk); (try clear hi)) | ((with_reducible refine gate_builtin (b := .append) (xs := #[.tmp 24, .tmp 28]) rfl ?_); at_builtin; refine Kd.R_append Kd.string (w0 := w) w.heap.size rfl (.tmp 24) (.tmp 28) 81 9 (.string ⟨#[]⟩) 16 rfl Tryd.underlying81 info9 rfl (by decide) (by omega) u4 x4_1 t151 [.string t151] (fun _ => True) (fun _ => False) rfl rfl ?aP (fun _ hk => hk.elim) ?aF ?aO ?aB ?aS ?aL ?_; (case aP => exact rfl); (case aB => exact (by repeat (first | (with_reducible first | exact HB.out | apply below_alloc | apply pw_below_drewN | apply below_drew1 | refine below_set ?_ GE149.out) | exact HB.out))); (case aF => exact (fun _ _ => trivial)); (case aO => exact (by (with_reducible repeat (first | apply Kd.R_alloc | apply Kd.R_drewN | apply Kd.R_drew)); exact HO_4.out)); (case aS => exact (below_size (by repeat (first | (with_reducible first | exact HB.out | apply below_alloc | apply pw_below_drewN | apply below_drew1 | refine below_set ?_ GE149.out) | exact HB.out)))); (case aL => have := LMc10.out; omega); intro v153 w16 ho hb hg hat; rw [← Ny152.out] at ho; have n0_ := Aside0.mk (blk_grown (g := gb149) (o := .cells #[.int .i64 ((rd_T28 l0 x12_1).f0), .int .i64 ((rd_T28 l0 x12_1).f1)] 28 (0, 0)) (by (with_reducible repeat (first | refine blk_drewN ?_ _ | refine blk_drew ?_ | refine blk_alloc ?_ _)); exact BK149.out) hg (Kd.R_ne HO_4.out BK149.out (by decide))); have n1_ := Aside0.mk (hb); have n2_ := Aside0.mk (ho); clear BK149; clear HB; clear HO_4; have BK149 := n0_; have HB := n1_; have HO154 := n2_; clear n0_ n1_ n2_; clear ho hb hg hat))
          go_roundg k1
          case measure => have := HK1.out; omega
          case rel => exact ⟨(y152), (wrap64 (x12_1 + 1)), (by first | rfl | (simp; done) | (simp [*]; done)), H', ⟨by have := HK1.out; omega⟩, ⟨by (with_reducible repeat (first | apply Kd.R_alloc | apply Kd.R_drewN | apply Kd.R_drew)); exact HO154.out⟩, ⟨by repeat (first | (with_reducible first | exact HB.out | apply below_alloc | apply pw_below_drewN | apply below_drew1 | refine below_set ?_ GE149.out) | exact HB.out)⟩⟩
         ·rw [if_neg c10] at H
          exact absurd H (by simp)
        ·rw [if_neg c8] at H
         have c8b0 : (((rd_T28 l0 x12_1).f0) == ((rd_T28 l0 x12_1).f1)) = false := beq_eq_false_iff_ne.mpr c8
         have c8b1 : (((rd_T28 l0 x12_1).f0) != ((rd_T28 l0 x12_1).f1)) = true := bne_iff_ne.mpr c8
         replace H := Option.bind_eq_some_iff.mp H
         obtain ⟨t155, A170, H⟩ := H
         replace H : (if t155.size + 1 ≤ 9223372036854775807 then ((span_word.f ((rd_T28 l0 x12_1).f1)).bind fun t156 => (if (t155 ++ (⟨#[58]⟩ : ByteArray)).size + t156.size ≤ 9223372036854775807 then (if x4_1.length < 8796093022208 then (span_Print.l0 k1 (x4_1 ++ [(t155 ++ (⟨#[58]⟩ : ByteArray)) ++ t156]) l0 (l0.length : Int) (wrap64 (x12_1 + 1))) else (none)) else (none))) else (none)) = some (r1, r2) := H
         have A17 := Aside0.mk A170
         clear A170
         by_cases c18 : t155.size + 1 ≤ 9223372036854775807
         ·rw [if_pos c18] at H
          have c18b0 := eq_true c18
          have c18b1 : decide (t155.size + 1 ≤ 9223372036854775807) = true := decide_eq_true c18
          try have c18b2 : (9223372036854775807 < t155.size + 1) = False := eq_false (Nat.not_lt.2 c18)
          replace H := Option.bind_eq_some_iff.mp H
          obtain ⟨t156, A190, H⟩ := H
          replace H : (if (t155 ++ (⟨#[58]⟩ : ByteArray)).size + t156.size ≤ 9223372036854775807 then (if x4_1.length < 8796093022208 then (span_Print.l0 k1 (x4_1 ++ [(t155 ++ (⟨#[58]⟩ : ByteArray)) ++ t156]) l0 (l0.length : Int) (wrap64 (x12_1 + 1))) else (none)) else (none)) = some (r1, r2) := H
          have A19 := Aside0.mk A190
          clear A190
          by_cases c20 : (t155 ++ (⟨#[58]⟩ : ByteArray)).size + t156.size ≤ 9223372036854775807
          ·rw [if_pos c20] at H
           have c20b0 := eq_true c20
           have c20b1 : decide ((t155 ++ (⟨#[58]⟩ : ByteArray)).size + t156.size ≤ 9223372036854775807) = true := decide_eq_true c20
           try have c20b2 : (9223372036854775807 < (t155 ++ (⟨#[58]⟩ : ByteArray)).size + t156.size) = False := eq_false (Nat.not_lt.2 c20)
           try have c20b7 : (9223372036854775807 < t155.size + 1 + t156.size) = False := eq_false (by have h_ := c20; have e0_ : (⟨#[58]⟩ : ByteArray).size = 1 := rfl; (try dsimp only at e0_); simp only [ByteArray.size_append, ByteArray.size_extract] at h_; first | exact Nat.not_lt.2 h_ | omega | (simp at h_ ⊢; omega))
           try have c20b3 : (9223372036854775807 < t155.size + (⟨#[58]⟩ : ByteArray).size + t156.size) = False := eq_false (by have h_ := c20; simp only [ByteArray.size_append] at h_; omega)
           by_cases c21 : x4_1.length < 8796093022208
           ·rw [if_pos c21] at H
            have LMc21 := Aside0.mk c21
            clear c21
            obtain ⟨y157, hy157⟩ : ∃ y_ : List ByteArray, y_ = (x4_1 ++ [(t155 ++ (⟨#[58]⟩ : ByteArray)) ++ t156]) := ⟨_, rfl⟩
            replace H : (span_Print.l0 k1 y157 l0 (l0.length : Int) (wrap64 (x12_1 + 1))) = some (r1, r2) := by first | (rw [hy157]; with_reducible exact H) | (have H2_ := (Option.bind_some _ _).symm.trans H; rw [hy157]; with_reducible exact H2_) | (have H2_ := (Option.bind_some _ _).symm.trans H; with_reducible exact H2_) | with_reducible exact H | (rw [hy157]; exact H) | exact H
            have Ny157 := Aside0.mk hy157
            clear hy157
            have H' := Aside0.mk H
            clear H
            have p148 : 0 ≤ (x12_1 : Int) := of_decide_eq_true (by first | (with_reducible assumption) | assumption)
            have q148 : x12_1 < (l0.length : Int) := of_decide_eq_true (by first | (with_reducible assumption) | assumption)
            obtain ⟨ad148, e148, hx148_0, hx148_1⟩ := at_T28 HR0.out x12_1 p148 q148
            cases e148
            replace hx148_0 := (HB.out.cell (World.block_lt_of_cell? w _ hx148_0)).trans hx148_0
            replace hx148_1 := (HB.out.cell (World.block_lt_of_cell? w _ hx148_1)).trans hx148_1
            replace p148 := eq_true p148
            replace q148 := eq_true q148
            try go_wp2_with (first | ((with_reducible refine gate_dst (N := 6) rfl ?_); refine box_event ?hg (N := 6) ?hd (cs := #[.int .i64 0, .int .i64 0]) (t := 28) ?hr ?_; (case hd => rfl); (case hg => rfl); (case hr => first | (go_simp; done) | (go_simp; rfl)); intro gb149 hg w22 hbox hb; have n0_ := Aside0.mk (Kd.R_below (by (with_reducible repeat (first | apply Kd.R_alloc | apply Kd.R_drewN | apply Kd.R_drew)); exact HO_4.out) hb); have n1_ := Aside0.mk (below_step (by repeat (first | (with_reducible first | exact HB.out | apply below_alloc | apply pw_below_drewN | apply below_drew1) | exact HB.out)) hb); have n2_ := Aside0.mk (hbox); have n3_ := Aside0.mk ((by rw [hg]; exact (below_size (by repeat (first | (with_reducible first | exact HB.out | apply below_alloc | apply pw_below_drewN | apply below_drew1) | exact HB.out))) : w.heap.size ≤ gb149)); have n4_ := Aside0.mk ((by rw [hg]; exact (below_size (by repeat (first | (with_reducible first | exact HB.out | apply below_alloc | apply pw_below_drewN | apply below_drew1) | exact HB.out))) : w.heap.size ≤ gb149)); clear HO_4; clear HB; have HO_4 := n0_; have HB := n1_; have BK149 := n2_; have GW149 := n3_; have GE149 := n4_; clear n0_ n1_ n2_ n3_ n4_; clear hb hbox hg; have hcz23_0 : w22.cell? ⟨gb149, 0, none⟩ = some (.int .i64 0) := (blk_cell BK149.out 0).trans rfl; have hcz23_1 : w22.cell? ⟨gb149, 1, none⟩ = some (.int .i64 0) := (blk_cell BK149.out 1).trans rfl; have hfz23_0 := blk_frozen BK149.out 0; have hfz23_1 := blk_frozen BK149.out 1) | ((with_reducible refine gate_callee (f := 49) rfl ?_); refine goesL_ (some 17) rfl rfl Tryd.func49 (by kernel_rfl) rfl #[.agg #[.int .i64 ((rd_T28 l0 x12_1).f0), .int .i64 ((rd_T28 l0 x12_1).f1)]] rfl (by (try simp only [List.map_toArray, List.map_cons, List.map_nil]); first | done | rfl | (simp only [List.length_drop, List.length_take]; rfl)) ?_; (with_reducible refine (span_isRange.calls ((rd_T28 l0 x12_1).f0) ((rd_T28 l0 x12_1).f1) true _ A6.out).mono ?_); rintro e w24 ⟨rfl, hb⟩; refine ⟨_, rfl, ?_⟩; have n0_ := Aside0.mk (Kd.R_below (by (with_reducible repeat (first | apply Kd.R_alloc | apply Kd.R_drewN | apply Kd.R_drew)); exact (Kd.R_mono (Kd.R_far (p := ⟨gb149, 1, none⟩) (Kd.R_far (p := ⟨gb149, 0, none⟩) (Kd.R_types HO_4.out BK149.out (by decide)) (fun _ hk => hk.2) (.int .i64 ((rd_T28 l0 x12_1).f0))) (fun _ hk => hk.2) (.int .i64 ((rd_T28 l0 x12_1).f1))) (fun _ h_ => h_.1))) hb); have n1_ := Aside0.mk (blk_below (g := gb149) (o := .cells #[.int .i64 ((rd_T28 l0 x12_1).f0), .int .i64 ((rd_T28 l0 x12_1).f1)] 28 (0, 0)) (by (with_reducible repeat (first | refine blk_drewN ?_ _ | refine blk_drew ?_ | refine blk_alloc ?_ _)); refine blk_put (cs := #[.int .i64 ((rd_T28 l0 x12_1).f0), .int .i64 0]) ?_ 1 _ rfl; (with_reducible repeat (first | refine blk_drewN ?_ _ | refine blk_drew ?_ | refine blk_alloc ?_ _)); refine blk_put (cs := #[.int .i64 0, .int .i64 0]) ?_ 0 _ rfl; (with_reducible repeat (first | refine blk_drewN ?_ _ | refine blk_drew ?_ | refine blk_alloc ?_ _)); exact BK149.out) hb); have n2_ := Aside0.mk (below_step (by repeat (first | (with_reducible first | exact HB.out | apply below_alloc | apply pw_below_drewN | apply below_drew1 | refine below_set ?_ GE149.out) | exact HB.out)) hb); clear HO_4; clear BK149; clear HB; have HO_4 := n0_; have BK149 := n1_; have HB := n2_; clear n0_ n1_ n2_; (try clear hb); (try clear hb2); (try clear hk); (try clear hi); have hcz25_0 : w24.cell? ⟨gb149, 0, none⟩ = some (.int .i64 ((rd_T28 l0 x12_1).f0)) := (blk_cell BK149.out 0).trans rfl; have hcz25_1 : w24.cell? ⟨gb149, 1, none⟩ = some (.int .i64 ((rd_T28 l0 x12_1).f1)) := (blk_cell BK149.out 1).trans rfl; have hfz25_0 := blk_frozen BK149.out 0; have hfz25_1 := blk_frozen BK149.out 1))
            have n0_ := Aside0.mk (Kd.R_drew HO_4.out)
            have n1_ := Aside0.mk (blk_drew BK149.out)
            have n2_ := Aside0.mk (below_drew1 HB.out)
            clear HO_4
            clear BK149
            clear HB
            have HO_4 := n0_
            have BK149 := n1_
            have HB := n2_
            clear n0_ n1_ n2_
            refine start_ (n := 12) (S := fun w' => w'.cell? ⟨gb149, 0, none⟩ = some (.int .i64 ((rd_T28 l0 x12_1).f0)) ∧ w'.cell? ⟨gb149, 1, none⟩ = some (.int .i64 ((rd_T28 l0 x12_1).f1))) (ds := []) (bs_ 0 12) (by kernel_rfl) rfl rfl ⟨(blk_cell BK149.out 0).trans rfl, (blk_cell BK149.out 1).trans rfl⟩ (fun hHeld => ?_); refine with_tabW span_Print.tab11 span_Print.bits11 (fun HT_ HW_ => ?_)
            generalize w24.drew = w26 at HO_4 BK149 HB hHeld ⊢
            refine pu_ 0 (some 30) ?_ (bs_ 1 11) rfl rfl (any_of HT_.out (by kernel_rfl)) (fun _ _ _ h => h) (y_ (by rfl) ?_) ?_ ?_ ?_
            rotate_left
            ·intro w'
             go_simp
             with_reducible rfl
            rotate_left
            ·simp only [Act.put, s1_, s2_, s3_, i64_w, i32_w]
             rfl
            refine pu_ 1 (some 31) ?_ (bs_ 2 10) rfl rfl (any_of HT_.out (by kernel_rfl)) (fun _ _ _ h => h) (y_ (by rfl) ?_) ?_ ?_ ?_
            rotate_left
            ·intro w'
             go_simp
             with_reducible rfl
            rotate_left
            ·simp only [Act.put, s1_, s2_, s3_, i64_w, i32_w]
             rfl
            refine pu_ 5 (some 35) ?_ #[true, true, false, false, false, true, false, false, false, false, false, false] rfl rfl (any_of HT_.out (by kernel_rfl)) (fun _ _ _ h => h) (y_ (by rfl) ?_) ?_ ?_ ?_
            rotate_left
            ·intro w'
             go_simp
             with_reducible rfl
            rotate_left
            ·simp only [Act.put, s1_, s2_, s3_, i64_w, i32_w]
             rfl
            refine take_ (i := 2) (N := some 32) (v := ?_) (a' := ?_) #[true, true, true, false, false, true, false, false, false, false, false, false] rfl rfl (take_ofW HT_.out HW_.out (by kernel_rfl)) (fun _ _ _ h => h) (Or.inl ⟨by rfl, ?_⟩) hHeld ?_ ?_
            rotate_left
            ·rintro w' ⟨s0, s1⟩
             go_simp
             with_reducible rfl
            rotate_left
            ·simp only [Act.put, s1_, s2_, s3_, i64_w, i32_w]
             rfl
            refine take_ (i := 6) (N := some 36) (v := ?_) (a' := ?_) #[true, true, true, false, false, true, true, false, false, false, false, false] rfl rfl (take_ofW HT_.out HW_.out (by kernel_rfl)) (fun _ _ _ h => h) (Or.inl ⟨by rfl, ?_⟩) hHeld ?_ ?_
            rotate_left
            ·rintro w' ⟨s0, s1⟩
             go_simp
             with_reducible rfl
            rotate_left
            ·simp only [Act.put, s1_, s2_, s3_, i64_w, i32_w]
             rfl
            refine one_ (i := 3) (N := some 33) #[true, true, true, true, false, true, true, false, false, false, false, false] rfl rfl (one_of HT_.out (by kernel_rfl)) (by decide) (fun K hK => ?_)
            refine goes_ Tryd.func56 (by kernel_rfl) rfl #[.int .i64 ((rd_T28 l0 x12_1).f0)] (by rfl) rfl rfl (by (try simp only [List.map_toArray, List.map_cons, List.map_nil]); first | done | rfl | (simp only [List.length_drop, List.length_take]; rfl)) ?_
            with_reducible refine (span_word.calls ((rd_T28 l0 x12_1).f0) t155 _ A17.out (by first | exact laid_below HL_.out (by repeat (first | (with_reducible first | exact HB.out | apply below_alloc | apply pw_below_drewN | apply below_drew1) | exact HB.out)) | exact laid_drawn HL_.out (by repeat (first | exact Drawn0.refl _ | apply Drawn0.step)))).mono ?_
            rintro e w27 ⟨rfl, hb⟩
            refine ⟨_, rfl, ?_⟩
            have n0_ := Aside0.mk (Kd.R_below (by (with_reducible repeat (first | apply Kd.R_alloc | apply Kd.R_drewN | apply Kd.R_drew)); exact HO_4.out) hb)
            have n1_ := Aside0.mk (blk_below (g := gb149) (o := .cells #[.int .i64 ((rd_T28 l0 x12_1).f0), .int .i64 ((rd_T28 l0 x12_1).f1)] 28 (0, 0)) (by (with_reducible repeat (first | refine blk_drewN ?_ _ | refine blk_drew ?_ | refine blk_alloc ?_ _)); exact BK149.out) hb)
            have n2_ := Aside0.mk (below_step (by repeat (first | (with_reducible first | exact HB.out | apply below_alloc | apply pw_below_drewN | apply below_drew1 | refine below_set ?_ GE149.out) | exact HB.out)) hb)
            clear HO_4
            clear BK149
            clear HB
            have HO_4 := n0_
            have BK149 := n1_
            have HB := n2_
            clear n0_ n1_ n2_
            (try clear hb)
            (try clear hb2)
            (try clear hk)
            (try clear hi)
            refine hK.out _ _ ⟨(blk_cell BK149.out 0).trans rfl, (blk_cell BK149.out 1).trans rfl⟩ (fun hHeld => ?_)
            clear hK K
            refine norm_ (a' := ?_) ?_ ?_
            rotate_left
            ·show Act.put _ (some 33) _ = _
             simp only [Act.put, s1_, s2_, s3_, i64_w, i32_w]
             rfl
            refine pu_ 4 (some 34) ?_ (bs_ 7 5) rfl rfl (any_of HT_.out (by kernel_rfl)) (fun _ _ _ h => h) (y_ (by rfl) ?_) ?_ ?_ ?_
            rotate_left
            ·intro w'
             go_simp
             with_reducible rfl
            rotate_left
            ·simp only [Act.put, s1_, s2_, s3_, i64_w, i32_w]
             rfl
            refine one_ (i := 7) (N := some 37) (bs_ 8 4) rfl rfl (one_of HT_.out (by kernel_rfl)) (by decide) (fun K hK => ?_)
            refine goes_ Tryd.func56 (by kernel_rfl) rfl #[.int .i64 ((rd_T28 l0 x12_1).f1)] (by rfl) rfl rfl (by (try simp only [List.map_toArray, List.map_cons, List.map_nil]); first | done | rfl | (simp only [List.length_drop, List.length_take]; rfl)) ?_
            with_reducible refine (span_word.calls ((rd_T28 l0 x12_1).f1) t156 _ A19.out (by first | exact laid_below HL_.out (by repeat (first | (with_reducible first | exact HB.out | apply below_alloc | apply pw_below_drewN | apply below_drew1) | exact HB.out)) | exact laid_drawn HL_.out (by repeat (first | exact Drawn0.refl _ | apply Drawn0.step)))).mono ?_
            rintro e w28 ⟨rfl, hb⟩
            refine ⟨_, rfl, ?_⟩
            have n0_ := Aside0.mk (Kd.R_below (by (with_reducible repeat (first | apply Kd.R_alloc | apply Kd.R_drewN | apply Kd.R_drew)); exact HO_4.out) hb)
            have n1_ := Aside0.mk (blk_below (g := gb149) (o := .cells #[.int .i64 ((rd_T28 l0 x12_1).f0), .int .i64 ((rd_T28 l0 x12_1).f1)] 28 (0, 0)) (by (with_reducible repeat (first | refine blk_drewN ?_ _ | refine blk_drew ?_ | refine blk_alloc ?_ _)); exact BK149.out) hb)
            have n2_ := Aside0.mk (below_step (by repeat (first | (with_reducible first | exact HB.out | apply below_alloc | apply pw_below_drewN | apply below_drew1 | refine below_set ?_ GE149.out) | exact HB.out)) hb)
            clear HO_4
            clear BK149
            clear HB
            have HO_4 := n0_
            have BK149 := n1_
            have HB := n2_
            clear n0_ n1_ n2_
            (try clear hb)
            (try clear hb2)
            (try clear hk)
            (try clear hi)
            refine hK.out _ _ ⟨(blk_cell BK149.out 0).trans rfl, (blk_cell BK149.out 1).trans rfl⟩ (fun hHeld => ?_)
            clear hK K
            refine norm_ (a' := ?_) ?_ ?_
            rotate_left
            ·show Act.put _ (some 37) _ = _
             simp only [Act.put, s1_, s2_, s3_, i64_w, i32_w]
             rfl
            refine pu_ 8 (some 38) ?_ (bs_ 9 3) rfl rfl (any_of HT_.out (by kernel_rfl)) (fun _ _ _ h => h) (y_ (by rfl) ?_) ?_ ?_ ?_
            rotate_left
            ·intro w'
             go_simp
             with_reducible rfl
            rotate_left
            ·simp only [Act.put, s1_, s2_, s3_, i64_w, i32_w]
             rfl
            refine one_ (i := 9) (N := some 39) (bs_ 10 2) rfl rfl (one_of HT_.out (by kernel_rfl)) (by decide) (fun K hK => ?_)
            refine value_ (w1 := ?_) (v := ?_) (by rfl) rfl ?_ ?_
            rotate_left 2
            ·go_simp
             constructor
             ·rfl
             ·rfl
            refine hK.out _ _ ⟨(blk_cell (blk_alloc BK149.out _) 0).trans rfl, (blk_cell (blk_alloc BK149.out _) 1).trans rfl⟩ (fun hHeld => ?_)
            clear hK K
            refine norm_ (a' := ?_) ?_ ?_
            rotate_left
            ·show Act.put _ (some 39) _ = _
             simp only [Act.put, s1_, s2_, s3_, i64_w, i32_w]
             rfl
            refine one_ (i := 10) (N := some 40) (bs_ 11 1) rfl rfl (one_of HT_.out (by kernel_rfl)) (by decide) (fun K hK => ?_)
            refine Kd.R_append_step Kd.string (w0 := w) w.heap.size (by rfl) (.tmp 30) (.tmp 39) 81 9 (.string ⟨#[]⟩) 16 rfl Tryd.underlying81 info9 rfl (by decide) (by omega) u4 x4_1 ((t155 ++ (⟨#[58]⟩ : ByteArray)) ++ t156) [.string ((t155 ++ (⟨#[58]⟩ : ByteArray)) ++ t156)] (fun _ => True) (fun _ => False) rfl rfl ?aP (fun _ hk => hk.elim) ?aF ?aO ?aB ?aS ?aL ?_
            (case aP => exact rfl)
            (case aB => exact (by repeat (first | (with_reducible first | exact HB.out | apply below_alloc | apply pw_below_drewN | apply below_drew1 | refine below_set ?_ GE149.out) | exact HB.out)))
            (case aF => exact (fun _ _ => trivial))
            (case aO => exact (by (with_reducible repeat (first | apply Kd.R_alloc | apply Kd.R_drewN | apply Kd.R_drew)); exact HO_4.out))
            (case aS => exact (below_size (by repeat (first | (with_reducible first | exact HB.out | apply below_alloc | apply pw_below_drewN | apply below_drew1 | refine below_set ?_ GE149.out) | exact HB.out))))
            (case aL => have := LMc21.out; omega)
            intro v158 w29 ho hb hg hat
            rw [← Ny157.out] at ho
            have n0_ := Aside0.mk (blk_grown (g := gb149) (o := .cells #[.int .i64 ((rd_T28 l0 x12_1).f0), .int .i64 ((rd_T28 l0 x12_1).f1)] 28 (0, 0)) (by (with_reducible repeat (first | refine blk_drewN ?_ _ | refine blk_drew ?_ | refine blk_alloc ?_ _)); exact BK149.out) hg (Kd.R_ne HO_4.out BK149.out (by decide)))
            have n1_ := Aside0.mk (hb)
            have n2_ := Aside0.mk (ho)
            clear BK149
            clear HB
            clear HO_4
            have BK149 := n0_
            have HB := n1_
            have HO159 := n2_
            clear n0_ n1_ n2_
            clear ho hb hg hat
            refine hK.out _ _ ⟨(blk_cell BK149.out 0).trans rfl, (blk_cell BK149.out 1).trans rfl⟩ (fun hHeld => ?_)
            clear hK K
            refine norm_ (a' := ?_) ?_ ?_
            rotate_left
            ·show Act.put _ (some 40) _ = _
             simp only [Act.put, s1_, s2_, s3_, i64_w, i32_w]
             rfl
            refine pu_ 11 (some 4) ?_ (bs_ 12 0) rfl rfl (any_of HT_.out (by kernel_rfl)) (fun _ _ _ h => h) (y_ (by rfl) ?_) ?_ ?_ ?_
            rotate_left
            ·intro w'
             go_simp
             with_reducible rfl
            rotate_left
            ·simp only [Act.put, s1_, s2_, s3_, i64_w, i32_w]
             rfl
            refine done_ (done_of HT_.out (by kernel_rfl)) ?_
            try go_wp2
            go_roundg k1
            case measure => have := HK1.out; omega
            case rel => exact ⟨(y157), (wrap64 (x12_1 + 1)), (by first | rfl | (simp; done) | (simp [*]; done)), H', ⟨by have := HK1.out; omega⟩, ⟨by (with_reducible repeat (first | apply Kd.R_alloc | apply Kd.R_drewN | apply Kd.R_drew)); exact HO159.out⟩, ⟨by repeat (first | (with_reducible first | exact HB.out | apply below_alloc | apply pw_below_drewN | apply below_drew1 | refine below_set ?_ GE149.out) | exact HB.out)⟩⟩
           ·rw [if_neg c21] at H
            exact absurd H (by simp)
          ·rw [if_neg c20] at H
           exact absurd H (by simp)
         ·rw [if_neg c18] at H
          exact absurd H (by simp)
       ·replace c7 := Bool.eq_false_iff.mpr c7
        subst c7
        have H1 : (some ((⟨#[]⟩ : ByteArray), 40)) = some (r1, r2) := by rw [if_neg (show ¬ (false = true) by decide)] at H; exact H
        clear H
        have H := H1
        clear H1
        simp only [Option.some.injEq, Prod.mk.injEq] at H
        obtain ⟨rfl, rfl⟩ := H
        have p148 : 0 ≤ (x12_1 : Int) := of_decide_eq_true (by first | (with_reducible assumption) | assumption)
        have q148 : x12_1 < (l0.length : Int) := of_decide_eq_true (by first | (with_reducible assumption) | assumption)
        obtain ⟨ad148, e148, hx148_0, hx148_1⟩ := at_T28 HR0.out x12_1 p148 q148
        cases e148
        replace hx148_0 := (HB.out.cell (World.block_lt_of_cell? w _ hx148_0)).trans hx148_0
        replace hx148_1 := (HB.out.cell (World.block_lt_of_cell? w _ hx148_1)).trans hx148_1
        replace p148 := eq_true p148
        replace q148 := eq_true q148
        go_wp2_with (first | ((with_reducible refine gate_dst (N := 6) rfl ?_); refine box_event ?hg (N := 6) ?hd (cs := #[.int .i64 0, .int .i64 0]) (t := 28) ?hr ?_; (case hd => rfl); (case hg => rfl); (case hr => first | (go_simp; done) | (go_simp; rfl)); intro gb149 hg w30 hbox hb; have n0_ := Aside0.mk (Kd.R_below (by (with_reducible repeat (first | apply Kd.R_alloc | apply Kd.R_drewN | apply Kd.R_drew)); exact HO_4.out) hb); have n1_ := Aside0.mk (below_step (by repeat (first | (with_reducible first | exact HB.out | apply below_alloc | apply pw_below_drewN | apply below_drew1) | exact HB.out)) hb); have n2_ := Aside0.mk (hbox); have n3_ := Aside0.mk ((by rw [hg]; exact (below_size (by repeat (first | (with_reducible first | exact HB.out | apply below_alloc | apply pw_below_drewN | apply below_drew1) | exact HB.out))) : w.heap.size ≤ gb149)); have n4_ := Aside0.mk ((by rw [hg]; exact (below_size (by repeat (first | (with_reducible first | exact HB.out | apply below_alloc | apply pw_below_drewN | apply below_drew1) | exact HB.out))) : w.heap.size ≤ gb149)); clear HO_4; clear HB; have HO_4 := n0_; have HB := n1_; have BK149 := n2_; have GW149 := n3_; have GE149 := n4_; clear n0_ n1_ n2_ n3_ n4_; clear hb hbox hg; have hcz31_0 : w30.cell? ⟨gb149, 0, none⟩ = some (.int .i64 0) := (blk_cell BK149.out 0).trans rfl; have hcz31_1 : w30.cell? ⟨gb149, 1, none⟩ = some (.int .i64 0) := (blk_cell BK149.out 1).trans rfl; have hfz31_0 := blk_frozen BK149.out 0; have hfz31_1 := blk_frozen BK149.out 1) | ((with_reducible refine gate_callee (f := 49) rfl ?_); refine goesL_ (some 17) rfl rfl Tryd.func49 (by kernel_rfl) rfl #[.agg #[.int .i64 ((rd_T28 l0 x12_1).f0), .int .i64 ((rd_T28 l0 x12_1).f1)]] rfl (by (try simp only [List.map_toArray, List.map_cons, List.map_nil]); first | done | rfl | (simp only [List.length_drop, List.length_take]; rfl)) ?_; (with_reducible refine (span_isRange.calls ((rd_T28 l0 x12_1).f0) ((rd_T28 l0 x12_1).f1) false _ A6.out).mono ?_); rintro e w32 ⟨rfl, hb⟩; refine ⟨_, rfl, ?_⟩; have n0_ := Aside0.mk (Kd.R_below (by (with_reducible repeat (first | apply Kd.R_alloc | apply Kd.R_drewN | apply Kd.R_drew)); exact (Kd.R_mono (Kd.R_far (p := ⟨gb149, 1, none⟩) (Kd.R_far (p := ⟨gb149, 0, none⟩) (Kd.R_types HO_4.out BK149.out (by decide)) (fun _ hk => hk.2) (.int .i64 ((rd_T28 l0 x12_1).f0))) (fun _ hk => hk.2) (.int .i64 ((rd_T28 l0 x12_1).f1))) (fun _ h_ => h_.1))) hb); have n1_ := Aside0.mk (blk_below (g := gb149) (o := .cells #[.int .i64 ((rd_T28 l0 x12_1).f0), .int .i64 ((rd_T28 l0 x12_1).f1)] 28 (0, 0)) (by (with_reducible repeat (first | refine blk_drewN ?_ _ | refine blk_drew ?_ | refine blk_alloc ?_ _)); refine blk_put (cs := #[.int .i64 ((rd_T28 l0 x12_1).f0), .int .i64 0]) ?_ 1 _ rfl; (with_reducible repeat (first | refine blk_drewN ?_ _ | refine blk_drew ?_ | refine blk_alloc ?_ _)); refine blk_put (cs := #[.int .i64 0, .int .i64 0]) ?_ 0 _ rfl; (with_reducible repeat (first | refine blk_drewN ?_ _ | refine blk_drew ?_ | refine blk_alloc ?_ _)); exact BK149.out) hb); have n2_ := Aside0.mk (below_step (by repeat (first | (with_reducible first | exact HB.out | apply below_alloc | apply pw_below_drewN | apply below_drew1 | refine below_set ?_ GE149.out) | exact HB.out)) hb); clear HO_4; clear BK149; clear HB; have HO_4 := n0_; have BK149 := n1_; have HB := n2_; clear n0_ n1_ n2_; (try clear hb); (try clear hb2); (try clear hk); (try clear hi)))
        go_ret2
        exact ⟨by first | rfl | (simp [errW_none, errW_some] <;> rfl) | (simp [*, errW_none, errW_some] <;> rfl), by repeat (first | (with_reducible first | exact HB.out | apply below_alloc | apply pw_below_drewN | apply below_drew1 | refine below_set ?_ GE149.out) | exact HB.out)⟩
      ·rw [if_neg c5] at H
       exact absurd H (by simp)
     ·rw [if_neg c4] at H
      exact absurd H (by simp)
    ·rw [if_neg c3] at H
     have c3b0 : decide (x12_1 < (l0.length : Int)) = false := decide_eq_false c3
     clear c3
     by_cases c33 : (x4_1.length : Int) = 0
     ·rw [if_pos c33] at H
      have c33b0 : ((x4_1.length : Int) == 0) = true := beq_iff_eq.mpr c33
      have c33b1 : ((x4_1.length : Int) != 0) = false := bne_eq_false_iff_eq.mpr c33
      clear c33
      simp only [Option.some.injEq, Prod.mk.injEq] at H
      obtain ⟨rfl, rfl⟩ := H
      obtain ⟨Ao34, co34, eo34⟩ := Kd.R_slice HO_4.out
      subst eo34
      go_wp2
      go_ret2
      exact ⟨by first | rfl | (simp [errW_none, errW_some] <;> rfl) | (simp [*, errW_none, errW_some] <;> rfl), by repeat (first | (with_reducible first | exact HB.out | apply below_alloc | apply pw_below_drewN | apply below_drew1) | exact HB.out)⟩
     ·rw [if_neg c33] at H
      have c33b0 : ((x4_1.length : Int) == 0) = false := beq_eq_false_iff_ne.mpr c33
      have c33b1 : ((x4_1.length : Int) != 0) = true := bne_iff_ne.mpr c33
      have c33b2 : ¬ (x4_1 = []) := fun h_ => c33 (by rw [h_]; rfl)
      replace H := Option.bind_eq_some_iff.mp H
      obtain ⟨t147, A350, H⟩ := H
      replace H : (some (t147, 0)) = some (r1, r2) := H
      have A35 := Aside0.mk A350
      clear A350
      simp only [Option.some.injEq, Prod.mk.injEq] at H
      obtain ⟨rfl, rfl⟩ := H
      obtain ⟨Ao36, co36, eo36⟩ := Kd.R_slice HO_4.out
      subst eo36
      go_wp2_with (first | ((with_reducible refine gate_callee (f := 57) rfl ?_); refine goesL_ (some 46) rfl rfl Tryd.func57 (by kernel_rfl) rfl #[.slice Ao36 x4_1.length co36, .string (⟨#[44]⟩ : ByteArray)] rfl (by (try simp only [List.map_toArray, List.map_cons, List.map_nil]); first | done | rfl | (simp only [List.length_drop, List.length_take]; rfl)) ?_; (with_reducible refine (strings_Join.calls _ _ x4_1 (⟨#[44]⟩ : ByteArray) t147 _ ?side1 ?side2 A35.out).mono ?_); (case side1 => repeat (first | exact (Kd.R_reads' HO_4.out).2.2 | (with_reducible refine Kd.C_alloc ?_ _) | (with_reducible refine Kd.C_drewN ?_ _) | (with_reducible refine Kd.C_drew ?_))); (case side2 => exact (Kd.R_reads' HO_4.out).2.1); rintro e w37 ⟨rfl, hb⟩; refine ⟨_, rfl, ?_⟩; have n0_ := Aside0.mk (Kd.R_below (by (with_reducible repeat (first | apply Kd.R_alloc | apply Kd.R_drewN | apply Kd.R_drew)); exact HO_4.out) hb); have n1_ := Aside0.mk (below_step (by repeat (first | (with_reducible first | exact HB.out | apply below_alloc | apply pw_below_drewN | apply below_drew1) | exact HB.out)) hb); clear HO_4; clear HB; have HO_4 := n0_; have HB := n1_; clear n0_ n1_; (try clear hb); (try clear hb2); (try clear hk); (try clear hi)))
      go_ret2
      exact ⟨by first | rfl | (simp [errW_none, errW_some] <;> rfl) | (simp [*, errW_none, errW_some] <;> rfl), by repeat (first | (with_reducible first | exact HB.out | apply below_alloc | apply pw_below_drewN | apply below_drew1) | exact HB.out)⟩
end Go.Proofs.YtidcchopmbodkaaDoor.Sp
end
section
namespace Go.Proofs.YtidcchopmbodkaaDoor.Par
def dig (c : UInt8) : Bool := 48 ≤ c && c ≤ 57
def valF (n : Nat) (l : List UInt8) : Nat := l.foldl (fun n c => 10 * n + (c.toNat - 48)) n
def val (l : List UInt8) : Nat := valF 0 l
def endP (t : List UInt8) : Option Nat :=
  if t = [42] then some 0 else if t = [] then none else if t.head? = some 48 then none else if 10 < t.length then none else if t.all dig then (if val t ≤ 4294967295 then some (val t) else none) else none
theorem dig_iff (c : UInt8) : dig c = true ↔ 48 ≤ c.toNat ∧ c.toNat ≤ 57 := by
  simp [dig, UInt8.le_iff_toNat_le]
theorem byte_eq (c : UInt8) (k : Nat) (hk : k < 256) : c = UInt8.ofNat k ↔ c.toNat = k := by
  constructor
  · rintro rfl; simp; omega
  · intro h; apply UInt8.toNat_inj.1; rw [h]; simp; omega
def cutB (c : UInt8) (l : List UInt8) : List UInt8 × List UInt8 × Bool := (l.takeWhile (· != c), (l.dropWhile (· != c)).drop 1, l.contains c)
theorem cut_is (c : UInt8) (l : List UInt8) : ((cutB c l).2.2 = false ∧ (cutB c l).1 = l ∧ (cutB c l).2.1 = [] ∧ c ∉ l) ∨ ((cutB c l).2.2 = true ∧ l = (cutB c l).1 ++ c :: (cutB c l).2.1 ∧ c ∉ (cutB c l).1) := by
  induction l with
  | nil => left; exact ⟨rfl, rfl, rfl, by simp⟩
  | cons d l ih =>
    by_cases h : d = c
    · subst h
      right
      refine ⟨by simp [cutB], by simp [cutB], by simp [cutB]⟩
    · have hd : (d != c) = true := by simp [h]
      have e1 : (cutB c (d :: l)).1 = d :: (cutB c l).1 := by simp [cutB, hd]
      have e2 : (cutB c (d :: l)).2.1 = (cutB c l).2.1 := by simp [cutB, hd]
      have e3 : (cutB c (d :: l)).2.2 = (cutB c l).2.2 := by
        simp only [cutB, List.contains_cons]
        rw [show (c == d) = false from by simp; exact fun e => h e.symm, Bool.false_or]
      rw [e1, e2, e3]
      rcases ih with ⟨h1, h2, h3, h4⟩ | ⟨h1, h2, h3⟩
      · left; exact ⟨h1, by rw [h2], h3, by simp [h4]; exact fun e => h e.symm⟩
      · right; exact ⟨h1, by rw [List.cons_append, ← h2], by simp [h3]; exact fun e => h e.symm⟩
def oneP (p : List UInt8) : Option (Int × Int) :=
  (endP (cutB 58 p).1).bind fun a => if (cutB 58 p).2.2 = false then some (a, a) else (endP (cutB 58 (cutB 58 p).2.1).1).bind fun b => if (cutB 58 (cutB 58 p).2.1).2.2 = false then some (a, b) else none
def manyP : Nat → List UInt8 → Option (List (Int × Int))
  | 0, _ => none
  | k + 1, u => (oneP (cutB 44 u).1).bind fun r => if (cutB 44 u).2.2 = true then (manyP k (cutB 44 u).2.1).map (r :: ·) else some [r]
end Go.Proofs.YtidcchopmbodkaaDoor.Par
end
