/- postbaglaw10.told: the frames of a text and the places behind them, in lists of its own. -/
import Derived.Test.YtcndhgpaoihblaaScan
import Derived.Test.YtcndhgpaoihblaaFr0
namespace Go.Proofs.Ytcndhgpaoihblaa.Fr
open Go.RowKit Go.Proofs.YtcndhgpaoihblaaW.PrintWords
open Plain Crc

def s49 (x : Seen) : S49 := ⟨x.kind, x.number, x.at_, ⟨x.body.toArray⟩⟩
def nx (x : Seen) : Int := x.next
theorem R_apart {α β : Type} {d : Kd α} {d2 : Kd β} {e e2 : Nat} {w : World} {base base2 : Nat} {ok ok2 : Nat → Prop} {v v2 : Value} {xs : List α} {ys : List β} (h : d.R e w base ok v xs) (h2 : d2.R e2 w base2 ok2 v2 ys) (ht : ∀ q, q ∈ e :: d.E → q ≠ e2) :
    d.R e w base (fun k => ok k ∧ some k ≠ v2.ownBlock) v xs := by
  cases ho : v2.ownBlock with
  | none => exact Kd.R_mono h (fun k hk => ⟨hk, by simp⟩)
  | some g =>
    obtain ⟨inner, hown⟩ := Kd.R_own h2
    obtain ⟨cells, hc⟩ := own_typed hown g ho
    exact Kd.R_mono (Kd.R_types h hc ht) (fun k hk => ⟨hk.1, by simpa using hk.2⟩)
/-- told's three blocks. -/
structure ToldSt (s : ByteArray) (base pl pp sb : Nat) (l : List Seen) (ok : Nat → Prop) (w : World) : Prop where
  okl : ok pl
  okp : ok pp
  oks : ok sb
  lp : pl ≠ pp
  ls : pl ≠ sb
  ps : pp ≠ sb
  bl : base ≤ pl
  bp : base ≤ pp
  text : w.heap[sb]? = some (.cells #[.string s] 9 (0, 0))
  rows : ∃ vl vp, w.heap[pl]? = some (.cells #[vl] 43 (0, 0)) ∧ w.heap[pp]? = some (.cells #[vp] 44 (0, 0)) ∧
    Kd.R k49 49 w base ok vl (l.map s49) ∧ Kd.R (Kd.int .i64) 3 w base ok vp (l.map nx)
def toldB (s : ByteArray) (l : List Seen) : Bool := decide (((l.length + 1 : Nat) : Int) ≤ (s.size : Int) / 18)
theorem len_snoc (l : List Seen) (x : Seen) : (l.map s49 ++ [s49 x]).length = l.length + 1 := by simp

theorem grown_alloc {w w1 : World} {o : Obj} {row : Option Nat} (hg : (w.alloc o).grownBy w1 row) : ∀ k, k < w.heap.size → some k ≠ row → w1.heap[k]? = w.heap[k]? :=
  fun k hk hn => by rw [hg.block k (by simp; omega) hn, Below.heap_alloc _ _ _ hk]
/-- Behind an append to what a block holds: the block as it was .. -/
theorem app_block {α : Type} {d : Kd α} {e t : Nat} {w w1 : World} {base p : Nat} {ok : Nat → Prop} {v : Value} {xs : List α} (hR : d.R e w base ok v xs) (hg : ∀ k, k < w.heap.size → some k ≠ v.ownBlock → w1.heap[k]? = w.heap[k]?) (hp : w.heap[p]? = some (.cells #[v] t (0, 0))) (ht : e ≠ t) :
    w1.heap[p]? = some (.cells #[v] t (0, 0)) := by
  have hlt := (Array.getElem?_eq_some_iff.1 hp).1
  rw [hg p hlt (Kd.R_ne hR hp ht), hp]
/-- .. and behind the store of the new list into it. -/
theorem app_store {α : Type} {d : Kd α} {e t : Nat} {w w1 : World} {base p : Nat} {ok ok2 : Nat → Prop} {v v1 : Value} {xs ys : List α} (hR : d.R e w base ok v xs) (hA : d.R e w1 base ok2 v1 ys) (hB : Below base w w1) (hg : ∀ k, k < w.heap.size → some k ≠ v.ownBlock → w1.heap[k]? = w.heap[k]?) (hp : w.heap[p]? = some (.cells #[v] t (0, 0))) (hbp : base ≤ p) (ht : ∀ q, q ∈ e :: d.E → q ≠ t) :
    (w1.setCell ⟨p, 0, none⟩ v1).heap[p]? = some (.cells #[v1] t (0, 0)) ∧ (∀ k, k < w.heap.size → k ≠ p → some k ≠ v.ownBlock → (w1.setCell ⟨p, 0, none⟩ v1).heap[k]? = w.heap[k]?) ∧
    d.R e (w1.setCell ⟨p, 0, none⟩ v1) base ok2 v1 ys ∧ w.heap.size ≤ (w1.setCell ⟨p, 0, none⟩ v1).heap.size ∧ Below base w (w1.setCell ⟨p, 0, none⟩ v1) := by
  have hb := app_block hR hg hp (ht e List.mem_cons_self)
  refine ⟨?_, fun k hk hn ho => ?_, Kd.R_set hA hb ht 0 v1, ?_, hB.setCell hbp v1⟩
  · rw [heap_setCell_same _ _ _ _ _ _ hb]; rfl
  · rw [heap_setCell_other _ _ _ _ hn, hg k hk ho]
  · have := hB.size
    simp [World.setCell]
    omega
set_option maxHeartbeats 1000000 in
set_option maxRecDepth 100000 in
theorem told1_calls (s : ByteArray) (base pl pp sb : Nat) (l : List Seen) (x : Seen) (ok : Nat → Prop) (w : World) (hs : s.size ≤ 1099511627776) (hl : l.length < 1099511627776) (hb : base ≤ w.heap.size) (h : ToldSt s base pl pp sb l ok w) :
    Calls Try.prog 39 #[.int .i64 x.next, .agg #[.int .i64 x.kind, .int .i64 x.number, .int .i64 x.at_, .string ⟨x.body.toArray⟩], .pointer (some ⟨pl, 0, none⟩), .pointer (some ⟨pp, 0, none⟩), .pointer (some ⟨sb, 0, none⟩)] w fun e w' =>
      e = .returned (.bool (toldB s l)) ∧ ToldSt s base pl pp sb (l ++ [x]) (fun k => ok k ∨ w.heap.size ≤ k) w' ∧ Below base w w' ∧ Kept w w' ok := by
  obtain ⟨vl, vp, hpl, hpp, hR1, hR2⟩ := h.rows
  have H := Lib.hid h
  have ltl : pl < w.heap.size := (Array.getElem?_eq_some_iff.1 hpl).1
  have ltp : pp < w.heap.size := (Array.getElem?_eq_some_iff.1 hpp).1
  have lts : sb < w.heap.size := (Array.getElem?_eq_some_iff.1 h.text).1
  have HPL := Lib.hid hpl
  have HPP := Lib.hid hpp
  have HR1 := Lib.hid hR1
  have HR2 := Lib.hid hR2
  clear h hR1 hR2
  have k1 : w.cell? ⟨pl, 0, none⟩ = some vl := cell_of_row w _ 0 _ _ _ hpl
  clear hpl hpp
  go_enter Try.func39, Try.ntmps39
  go_wp2_with (at_builtin; refine Kd.R_append k49 (w0 := w) base rfl (.tmp 8) (.tmp 10) 43 49 (.agg #[(.int .i64 0), (.int .i64 0), (.int .i64 0), (.string ⟨#[]⟩)]) 40 rfl Try.underlying43 info49 rfl (by decide) (by omega) vl (l.map s49) (s49 x) [.int .i64 x.kind, .int .i64 x.number, .int .i64 x.at_, .string ⟨x.body.toArray⟩] (fun k => ok k ∨ w.heap.size ≤ k) (fun _ => False) rfl (by first | (go_simp; done) | (go_simp; rfl)) ?aP (fun _ hk => hk.elim) ?aF ?aO ?aB ?aS ?aL ?_)
  case aP => exact k49_mkM _ _ _ (s49 x)
  case aF => intro k hk; simp at hk; exact .inr (by omega)
  case aO => exact Kd.R_alloc (Kd.R_mono HR1.out (fun _ h => .inl h)) _
  case aB => exact (Below.refl _ _).alloc hb _
  case aS => simp; omega
  case aL => rw [List.length_map]; omega
  intro v1 w1 hA hbl1 hg1 hat1
  obtain ⟨S1, C1, hv⟩ := Kd.R_slice hA
  rw [len_snoc] at hv
  subst hv
  clear hat1
  have hgl := app_block HR1.out (grown_alloc hg1) HPL.out (by decide)
  have c1 := cell_of_row w1 _ 0 _ _ _ hgl
  have z1 := frozen_of_row w1 _ 0 _ _ hgl
  obtain ⟨a1, a2, a3, a4, a5⟩ := app_store HR1.out hA hbl1 (grown_alloc hg1) HPL.out H.out.bl (by decide)
  have a6 : Kd.R (Kd.int .i64) 3 (w1.setCell ⟨pl, 0, none⟩ (.slice S1 (l.length + 1) C1)) base (fun k => ok k ∨ w.heap.size ≤ k) vp (l.map nx) :=
    Kd.R_mono (Kd.R_step (Kd.R_types (R_apart HR2.out HR1.out (by decide)) HPL.out (by decide)) (fun k hk hlt => a2 k hlt hk.2 hk.1.2)) (fun _ hk => .inl hk.1.1)
  have A1 := Lib.hid a1
  have A2 := Lib.hid a2
  have A3 := Lib.hid a3
  have A5 := Lib.hid a5
  have A6 := Lib.hid a6
  have HA := Lib.hid hA
  clear a1 a2 a3 a5 a6 hbl1 hg1 hgl hA
  go_upto_region 2 with fail
  clear c1 z1 k1
  generalize w1.setCell ⟨pl, 0, none⟩ (.slice S1 (l.length + 1) C1) = w2 at *
  have hpp2 : w2.heap[pp]? = some (.cells #[vp] 44 (0, 0)) := (A2.out pp ltp (fun e => H.out.lp e.symm) (Kd.R_ne HR1.out HPP.out (by decide))).trans HPP.out
  have hsb2 : w2.heap[sb]? = some (.cells #[.string s] 9 (0, 0)) := (A2.out sb lts (fun e => H.out.ls e.symm) (Kd.R_ne HR1.out H.out.text (by decide))).trans H.out.text
  have k2 : w2.cell? ⟨pp, 0, none⟩ = some vp := cell_of_row w2 _ 0 _ _ _ hpp2
  have HPP2 := Lib.hid hpp2
  have HSB2 := Lib.hid hsb2
  clear hpp2 hsb2
  go_wp2_with (at_builtin; refine Kd.R_append (Kd.int .i64) (w0 := w2) base rfl (.tmp 12) (.tmp 14) 44 3 (.int .i64 0) 8 rfl Try.underlying44 info3 rfl (by decide) (by omega) vp (l.map nx) (nx x) [.int .i64 x.next] (fun k => ok k ∨ w.heap.size ≤ k) (fun _ => False) rfl (by first | (go_simp; done) | (go_simp; rfl)) ?aP (fun _ hk => hk.elim) ?aF ?aO ?aB ?aS ?aL ?_)
  case aP => rfl
  case aF => intro k hk; exact .inr (by omega)
  case aO => exact A6.out
  case aB => exact Below.refl _ _
  case aS => omega
  case aL => rw [List.length_map]; omega
  intro v3 w3 hA hbl3 hg3 hat3
  obtain ⟨S3, C3, hv⟩ := Kd.R_slice hA
  subst hv
  clear hat3 k2
  generalize (l.map nx ++ [nx x]).length = m3 at *
  have hgp : w3.heap[pp]? = some (.cells #[vp] 44 (0, 0)) := app_block A6.out hg3.block HPP2.out (by decide)
  have c3 := cell_of_row w3 _ 0 _ _ _ hgp
  have z3 := frozen_of_row w3 _ 0 _ _ hgp
  obtain ⟨b1, b2, b3, b4, b5⟩ := app_store A6.out hA hbl3 hg3.block HPP2.out H.out.bp (by decide)
  have b6 := Kd.R_mono (ok' := fun k => ok k ∨ w.heap.size ≤ k) (Kd.R_step (Kd.R_types (R_apart A3.out A6.out (by decide)) HPP2.out (by decide)) (fun k hk hlt => b2 k hlt hk.2 hk.1.2)) (fun _ hk => hk.1.1)
  have hpl3 := (b2 pl (by omega) H.out.lp (Kd.R_ne A6.out A1.out (by decide))).trans A1.out
  have hsb3 := (b2 sb (by omega) (fun e => H.out.ps e.symm) (Kd.R_ne A6.out HSB2.out (by decide))).trans HSB2.out
  have B1 := Lib.hid b1
  have B2 := Lib.hid b2
  have B3 := Lib.hid b3
  have B5 := Lib.hid b5
  have B6 := Lib.hid b6
  have B7 := Lib.hid hpl3
  have B8 := Lib.hid hsb3
  clear b1 b2 b3 b5 b6 hpl3 hsb3 hbl3 hg3 hgp hA
  go_upto_region 3 with fail
  clear c3 z3
  generalize w3.setCell ⟨pp, 0, none⟩ (.slice S3 m3 C3) = w4 at *
  have c4 := cell_of_row w4 _ 0 _ _ _ B7.out
  have c5 := cell_of_row w4 _ 0 _ _ _ B8.out
  go_wp2
  go_ret
  refine ⟨rfl, ⟨?_, ?_, ?_, H.out.lp, H.out.ls, H.out.ps, H.out.bl, H.out.bp, B8.out, _, _, B7.out, B1.out, ?_, ?_⟩, A5.out.trans B5.out, ?_⟩
  · exact .inl H.out.okl
  · exact .inl H.out.okp
  · exact .inl H.out.oks
  · rw [List.map_append]; exact B6.out
  · rw [List.map_append]; exact B3.out
  · refine ⟨by omega, fun i hi hn => ?_⟩
    rw [B2.out i (by omega) (fun e => hn (e ▸ H.out.okp)) (fun e => hn (HR2.out.1 i e.symm)), A2.out i hi (fun e => hn (e ▸ H.out.okl)) (fun e => hn (HR1.out.1 i e.symm))]
theorem told_teller (s : ByteArray) (base pl pp sb : Nat) (hs : s.size ≤ 1099511627776) : Teller 39 #[.pointer (some ⟨pl, 0, none⟩), .pointer (some ⟨pp, 0, none⟩), .pointer (some ⟨sb, 0, none⟩)] base (ToldSt s base pl pp sb) (fun l _ => toldB s l) 1099511627776 where
  move := by
    intro l ok w w' hm hz h
    have keep : ∀ {k : Nat} {o : Obj}, ok k → w.heap[k]? = some o → w'.heap[k]? = some o := fun hk ho => (hm _ hk (Array.getElem?_eq_some_iff.1 ho).1).trans ho
    obtain ⟨vl, vp, h1, h2, h3, h4⟩ := h.rows
    exact ⟨h.okl, h.okp, h.oks, h.lp, h.ls, h.ps, h.bl, h.bp, keep h.oks h.text, vl, vp, keep h.okl h1, keep h.okp h2, Kd.R_step h3 hm, Kd.R_step h4 hm⟩
  mono := by
    intro l ok ok' w hm h
    obtain ⟨vl, vp, h1, h2, h3, h4⟩ := h.rows
    exact ⟨hm _ h.okl, hm _ h.okp, hm _ h.oks, h.lp, h.ls, h.ps, h.bl, h.bp, h.text, vl, vp, h1, h2, Kd.R_mono h3 hm, Kd.R_mono h4 hm⟩
  entry := fun args w => by kernel_rfl
  step := fun l x ok w hl hb h => told1_calls s base pl pp sb l x ok w hs hl hb h
theorem told_all (s : ByteArray) : ∀ (rest done : List Seen), 18 * (done.length + rest.length) ≤ s.size → taken (fun l _ => toldB s l) done rest = done ++ rest
  | [], done, _ => by simp [taken]
  | x :: r, done, h => by
    rw [List.length_cons] at h
    have e : toldB s done = true := decide_eq_true (by omega)
    simp only [taken, e, if_true]
    rw [told_all s r (done ++ [x]) (by rw [List.length_append, List.length_singleton]; omega)]
    simp

theorem heap_four (w : World) (a b c d : Obj) : ((((w.alloc a).alloc b).alloc c).alloc d).heap[w.heap.size]? = some a ∧ ((((w.alloc a).alloc b).alloc c).alloc d).heap[w.heap.size + 1]? = some b ∧
    ((((w.alloc a).alloc b).alloc c).alloc d).heap[w.heap.size + 1 + 1]? = some c ∧ ((((w.alloc a).alloc b).alloc c).alloc d).heap[w.heap.size + 1 + 1 + 1]? = some d ∧ ((((w.alloc a).alloc b).alloc c).alloc d).heap.size = w.heap.size + 4 := by
  have z1 : (w.alloc a).heap.size = w.heap.size + 1 := by simp
  have z2 : ((w.alloc a).alloc b).heap.size = w.heap.size + 1 + 1 := by simp
  have z3 : (((w.alloc a).alloc b).alloc c).heap.size = w.heap.size + 1 + 1 + 1 := by simp
  refine ⟨?_, ?_, ?_, ?_, by simp⟩
  · rw [Below.heap_alloc _ _ _ (by omega), Below.heap_alloc _ _ _ (by omega), Below.heap_alloc _ _ _ (by omega)]; exact heap_alloc_new _ _
  · rw [Below.heap_alloc _ _ _ (by omega), Below.heap_alloc _ _ _ (by omega), ← z1]; exact heap_alloc_new _ _
  · rw [Below.heap_alloc _ _ _ (by omega), ← z2]; exact heap_alloc_new _ _
  · rw [← z3]; exact heap_alloc_new _ _
set_option maxHeartbeats 1000000 in
set_option maxRecDepth 100000 in
theorem told_calls (s : ByteArray) (w : World) (hs : s.size ≤ 1099511627776) :
    Calls Try.prog 26 #[.string s] w fun e w' => ∃ v0_ v1_ : Value, e = .returned (.tuple #[v0_, v1_]) ∧ Kd.R k49 49 w' w.heap.size (fun _ => True) v0_ ((scanT s.data.toList 0 none).map s49) ∧
      Kd.R (Kd.int .i64) 3 w' w.heap.size (fun _ => True) v1_ ((scanT s.data.toList 0 none).map nx) ∧ Below w.heap.size w w' := by
  have hneq : ∀ (w : World) (f : Fn) (a b : Array Value), (binOp .eql 41 (.func f a b) .nilFunc).run Try.prog w = .ok (.bool false) w := fun w f a b => by kernel_rfl
  go_enter Try.func26, Try.ntmps26
  go_wp2_with fail
  refine (scan_calls _ _).mono ?_
  rintro e w4 ⟨rfl, rfl⟩
  go_wp2_with fail
  clear hneq
  obtain ⟨h1, h2, h3, h4, h5⟩ := heap_four w (.cells #[.string s] 9) (.cells #[.slice none 0 0] 43) (.cells #[.slice none 0 0] 44) (.cells #[.string s] 9)
  have hB := ((((Below.refl w.heap.size w).alloc (Nat.le_refl _) (.cells #[.string s] 9)).alloc (by simp) (.cells #[.slice none 0 0] 43)).alloc (by simp; omega) (.cells #[.slice none 0 0] 44)).alloc (by simp; omega) (.cells #[.string s] 9)
  have hlen := scanT_length s.data.toList 0 none
  rw [toList_length] at hlen
  generalize ((((w.alloc (.cells #[.string s] 9)).alloc (.cells #[.slice none 0 0] 43)).alloc (.cells #[.slice none 0 0] 44)).alloc (.cells #[.string s] 9)) = w1 at *
  have hst : ToldSt s w.heap.size (w.heap.size + 1) (w.heap.size + 1 + 1) w.heap.size [] (fun k => w.heap.size ≤ k ∧ k ≤ w.heap.size + 2) w1 :=
    ⟨by omega, by omega, by omega, by omega, by omega, by omega, by omega, by omega, h1, _, _, h2, h3, Kd.R_nil _ _ _ _ _, Kd.R_nil _ _ _ _ _⟩
  refine (scan1_calls s (w.heap.size + 1 + 1 + 1) 39 w.heap.size _ (ToldSt s w.heap.size (w.heap.size + 1) (w.heap.size + 1 + 1) w.heap.size) (fun l _ => toldB s l)
    (told_teller s _ _ _ _ hs) (by omega) (by omega) (fun k => w.heap.size ≤ k ∧ k ≤ w.heap.size + 2) w1 h4 (by omega) (fun k hk => by omega) (by omega) hst).mono ?_
  rintro e w5 ⟨rfl, hst5, hbl5, _⟩
  rw [told_all s _ [] (by rw [List.length_nil]; omega), List.nil_append] at hst5
  obtain ⟨vl, vp, g1, g2, g3, g4⟩ := hst5.rows
  have c1 := cell_of_row w5 _ 0 _ _ _ g1
  have c2 := cell_of_row w5 _ 0 _ _ _ g2
  have G3 := Lib.hid (Kd.R_mono g3 (fun _ _ => True.intro))
  have G4 := Lib.hid (Kd.R_mono g4 (fun _ _ => True.intro))
  have HBL := Lib.hid (hB.trans hbl5)
  clear hst5 g1 g2 g3 g4 hbl5 hst h1 h2 h3 h4 hB
  go_wp2
  go_quiet (fail)
  go_wp2
  go_ret2
  exact ⟨_, _, rfl, by apply Kd.R_drewN; exact G3.out, by apply Kd.R_drewN; exact G4.out, by apply pw_below_drewN; exact HBL.out⟩
/-- In the print's form. -/
def postbaglaw10_told.f (a0 : ByteArray) : Option (List S49 × List Int) :=
  if a0.size ≤ 1099511627776 then some ((scanT a0.data.toList 0 none).map s49, (scanT a0.data.toList 0 none).map nx) else none
theorem postbaglaw10_told.calls (a0 : ByteArray) (r1 : List S49) (r2 : List Int) (w : World) (h : postbaglaw10_told.f a0 = some (r1, r2)) :
    Calls Try.prog 26 #[.string a0] w fun e w' => ∃ v0_ v1_ : Value, e = .returned (.tuple #[v0_, v1_]) ∧ Kd.R k49 49 w' w.heap.size (fun _ => True) v0_ r1 ∧ Kd.R (Kd.int .i64) 3 w' w.heap.size (fun _ => True) v1_ r2 ∧ Below w.heap.size w w' := by
  unfold postbaglaw10_told.f at h
  split at h
  · rename_i hg
    simp only [Option.some.injEq, Prod.mk.injEq] at h
    obtain ⟨rfl, rfl⟩ := h
    exact told_calls a0 w hg
  · exact absurd h (by simp)
end Go.Proofs.Ytcndhgpaoihblaa.Fr
