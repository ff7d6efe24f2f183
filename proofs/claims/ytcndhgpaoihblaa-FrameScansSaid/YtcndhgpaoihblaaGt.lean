/- FrameScans' teller: behind each of the first two frames it goes through two iterators. -/
import Derived.Test.YtcndhgpaoihblaaGs
import Derived.Deep.RegionHeld3
namespace Go.Proofs.Ytcndhgpaoihblaa.Fr
open Go.RowKit Go.Proofs.YtcndhgpaoihblaaW.PrintWords
open Plain Crc
attribute [local go_sem high] eqS49
theorem cell_lt2 {a : Addr} {v : Value} {w : World} (hc : w.cell? a = some v) : a.block < w.heap.size := by
  unfold World.cell? at hc
  split at hc
  · rename_i hb; exact (Array.getElem?_eq_some_iff.1 hb).1
  · exact absurd hc (by simp)
theorem pw_cell_below2 {a : Addr} {v : Value} {w w' : World} (h : Below w.heap.size w w') (hc : w.cell? a = some v) : w'.cell? a = some v := cell_same hc (h.block _ (cell_lt2 hc))
theorem row_below {g : Nat} {o : Obj} {w w' : World} (h : Below w.heap.size w w') (hc : w.heap[g]? = some o) : w'.heap[g]? = some o := (h.block _ (Array.getElem?_eq_some_iff.1 hc).1).trans hc
theorem cell_set_far {w : World} {p a : Addr} {v u : Value} (h : w.cell? a = some u) (hn : a.block ≠ p.block) : (w.setCell p v).cell? a = some u := cell_same h (Below.heap_setCell w p v _ hn)
set_option maxHeartbeats 8000000 in
set_option maxRecDepth 100000 in
theorem scans1_calls (wb pb tb ib jb xb mb bi bj : Nat) (si sj : ByteArray) (A3 A4 A5 A6 : Option Addr) (aI : Addr) (c3 c4 c5 c6 cI m i j k : Nat) (x : Seen) (w0 w : World) (hsi : si.size ≤ 1099511627776) (hsj : sj.size ≤ 1099511627776)
    (hb0 : Below w0.heap.size w0 w) (h_n : w.heap[w0.heap.size]? = some (.cells #[.int .i64 (k : Nat)] 3 (0, 0))) (h_r : w.heap[w0.heap.size + 1]? = some (.cells #[.bool true] 4 (0, 0)))
    (h_w : w0.heap[wb]? = some (.cells #[.slice A3 (scanT si.data.toList 0 none).length c3] 43 (0, 0))) (h_p : w0.heap[pb]? = some (.cells #[.slice A4 (scanT si.data.toList 0 none).length c4] 44 (0, 0))) (h_t : w0.heap[tb]? = some (.cells #[.slice (some aI) m cI] 39 (0, 0)))
    (h_i : w0.heap[ib]? = some (.cells #[.int .i64 (i : Nat)] 3 (0, 0))) (h_j : w0.heap[jb]? = some (.cells #[.int .i64 (j : Nat)] 3 (0, 0)))
    (h_x : w0.heap[xb]? = some (.cells #[.slice A5 (scanT sj.data.toList 0 none).length c5] 43 (0, 0))) (h_m : w0.heap[mb]? = some (.cells #[.slice A6 (scanT sj.data.toList 0 none).length c6] 44 (0, 0)))
    (him : i < m) (hjm : j < m)
    (hci : w0.cell? (aI.add i) = some (.func (.func 35) #[] #[.pointer (some ⟨bi, 0, none⟩)])) (hcj : w0.cell? (aI.add j) = some (.func (.func 35) #[] #[.pointer (some ⟨bj, 0, none⟩)]))
    (hti : w0.heap[bi]? = some (.cells #[.string si] 9 (0, 0))) (htj : w0.heap[bj]? = some (.cells #[.string sj] 9 (0, 0)))
    (hC3 : Kd.C k49 w0 A3 (scanT si.data.toList 0 none).length ((scanT si.data.toList 0 none).map s49)) (hC4 : Kd.C (Kd.int .i64) w0 A4 (scanT si.data.toList 0 none).length ((scanT si.data.toList 0 none).map nx)) (hC5 : Kd.C k49 w0 A5 (scanT sj.data.toList 0 none).length ((scanT sj.data.toList 0 none).map s49)) (hC6 : Kd.C (Kd.int .i64) w0 A6 (scanT sj.data.toList 0 none).length ((scanT sj.data.toList 0 none).map nx)) (hk : k < (scanT si.data.toList 0 none).length) (hx : (scanT si.data.toList 0 none)[k]? = some x) :
    Calls Try.prog 24 #[.int .i64 x.next, .agg #[.int .i64 x.kind, .int .i64 x.number, .int .i64 x.at_, .string ⟨x.body.toArray⟩], .pointer (some ⟨w0.heap.size + 1, 0, none⟩), .pointer (some ⟨w0.heap.size, 0, none⟩), .pointer (some ⟨wb, 0, none⟩), .pointer (some ⟨pb, 0, none⟩), .pointer (some ⟨tb, 0, none⟩), .pointer (some ⟨ib, 0, none⟩), .pointer (some ⟨jb, 0, none⟩), .pointer (some ⟨xb, 0, none⟩), .pointer (some ⟨mb, 0, none⟩)] w fun e w' =>
      e = .returned (.bool true) ∧ w'.heap[w0.heap.size]? = some (.cells #[.int .i64 ((k + 1 : Nat) : Int)] 3 (0, 0)) ∧ w'.heap[w0.heap.size + 1]? = some (.cells #[.bool true] 4 (0, 0)) ∧ Below w0.heap.size w w' ∧ ∀ q, w0.heap.size + 2 ≤ q → q < w.heap.size → w'.heap[q]? = w.heap[q]? := by
  have GW := Lib.hid h_w
  have GP := Lib.hid h_p
  have GT := Lib.hid h_t
  have GI := Lib.hid h_i
  have GJ := Lib.hid h_j
  have GX := Lib.hid h_x
  have GM := Lib.hid h_m
  have GTI := Lib.hid hti
  have GTJ := Lib.hid htj
  have RCI := Lib.hid hci
  have RCJ := Lib.hid hcj
  have HC3 := Lib.hid hC3
  have HC4 := Lib.hid hC4
  have HC5 := Lib.hid hC5
  have HC6 := Lib.hid hC6
  have hlenI := scanT_length si.data.toList 0 none
  rw [toList_length] at hlenI
  have lz : w0.heap.size + 1 < w.heap.size := (Array.getElem?_eq_some_iff.1 h_r).1
  obtain ⟨a3, a4, e3, e4, l3, l4, r0, r1, r2, r3, r4⟩ := (at_rows hC3 hC4 k x hx).ex
  subst e3 e4
  clear h_w h_p h_t h_i h_j h_x h_m hti htj hci hcj hC3 hC4 hC5 hC6
  have hb1 : Below w.heap.size w (w.alloc (.cells #[.int .i64 x.kind, .int .i64 x.number, .int .i64 x.at_, .string ⟨x.body.toArray⟩] 49)) := (Below.refl w.heap.size w).alloc (Nat.le_refl _) (.cells #[.int .i64 x.kind, .int .i64 x.number, .int .i64 x.at_, .string ⟨x.body.toArray⟩] 49)
  have hnew := heap_alloc_new w (.cells #[.int .i64 x.kind, .int .i64 x.number, .int .i64 x.at_, .string ⟨x.body.toArray⟩] 49)
  have HB := Lib.hid (hb0.trans (hb1.mono (by omega)))
  have HD := Lib.hid (fun q (_ : w0.heap.size + 2 ≤ q) (hq : q < w.heap.size) => hb1.block q hq)
  have HN := Lib.hid ((hb1.block _ (by omega)).trans h_n)
  have HR := Lib.hid ((hb1.block _ (by omega)).trans h_r)
  have HBW := Lib.hid (hb1.mono (show w0.heap.size ≤ w.heap.size by omega))
  have HZ := Lib.hid (show w.heap.size ≤ (w.alloc (.cells #[.int .i64 x.kind, .int .i64 x.number, .int .i64 x.at_, .string ⟨x.body.toArray⟩] 49)).heap.size by simp)
  clear hb0 hb1 h_n h_r
  have y0 := cell_of_row _ _ 0 _ _ _ hnew
  have y1 := cell_of_row _ _ 1 _ _ _ hnew
  have y2 := cell_of_row _ _ 2 _ _ _ hnew
  have y3 := cell_of_row _ _ 3 _ _ _ hnew
  clear hnew
  have k_r := cell_of_row _ _ 0 _ _ _ HR.out
  have k_n := cell_of_row _ _ 0 _ _ _ HN.out
  have k_w := cell_of_row _ _ 0 _ _ _ (row_below HB.out GW.out)
  have k_p := cell_of_row _ _ 0 _ _ _ (row_below HB.out GP.out)
  have f_r := frozen_of_row _ _ 0 _ _ HR.out
  replace r0 := pw_cell_below2 HB.out r0
  replace r1 := pw_cell_below2 HB.out r1
  replace r2 := pw_cell_below2 HB.out r2
  replace r3 := pw_cell_below2 HB.out r3
  replace r4 := pw_cell_below2 HB.out r4
  have d1 : decide ((k : Int) < ((scanT si.data.toList 0 none).length : Int)) = true := decide_eq_true (by omega)
  have d2 : (0 : Int) ≤ (k : Int) := by omega
  have d3 : (k : Int) < ((scanT si.data.toList 0 none).length : Int) := by omega
  go_enter Try.func24, Try.ntmps24
  go_wp2_with fail
  generalize w.alloc (.cells #[.int .i64 x.kind, .int .i64 x.number, .int .i64 x.at_, .string ⟨x.body.toArray⟩] 49) = w1 at *
  go_still_tail 23, (by kernel_rfl)
  change wpList _ _ _ _ _ (World.drew _)
  clear k_r k_n k_w k_p f_r y0 y1 y2 y3 r0 r1 r2 r3 r4
  have n0_ : Hid (Below w0.heap.size w0 w1.drew) := Lib.hid (below_drew HB.out)
  have n1_ : Hid (∀ q, w0.heap.size + 2 ≤ q → q < w.heap.size → w1.drew.heap[q]? = w.heap[q]?) := Lib.hid HD.out
  have n2_ : Hid (w1.drew.heap[w0.heap.size]? = some (.cells #[.int .i64 (k : Nat)] 3 (0, 0))) := Lib.hid HN.out
  have n3_ : Hid (w1.drew.heap[w0.heap.size + 1]? = some (.cells #[.bool true] 4 (0, 0))) := Lib.hid HR.out
  have n4_ : Hid (Below w0.heap.size w w1.drew) := Lib.hid (below_drew HBW.out)
  have n5_ : Hid (w.heap.size ≤ w1.drew.heap.size) := Lib.hid HZ.out
  clear HB HD HN HR HBW HZ
  have HB := n0_
  have HD := n1_
  have HN := n2_
  have HR := n3_
  have HBW := n4_
  have HZ := n5_
  clear n0_ n1_ n2_ n3_ n4_ n5_
  generalize w1.drew = w2 at *
  have f_r := frozen_of_row _ _ 0 _ _ HR.out
  have k_r := cell_of_row _ _ 0 _ _ _ HR.out
  go_upto_region 2 with fail
  clear f_r k_r
  have hq_ := blk1 HR.out (.bool true)
  have n0_ := Lib.hid (HB.out.setCell (p := ⟨w0.heap.size + 1, 0, none⟩) (show w0.heap.size ≤ w0.heap.size + 1 by omega) (.bool true))
  have n1_ := Lib.hid (fun q (h1 : w0.heap.size + 2 ≤ q) (h2 : q < w.heap.size) => (hq_.2 q (by omega)).trans (HD.out q h1 h2))
  have n2_ := Lib.hid ((hq_.2 (w0.heap.size) (by omega)).trans HN.out)
  have n3_ := Lib.hid hq_.1
  have n4_ := Lib.hid (HBW.out.setCell (p := ⟨w0.heap.size + 1, 0, none⟩) (show w0.heap.size ≤ w0.heap.size + 1 by omega) (.bool true))
  have n5_ : Hid (w.heap.size ≤ (w2.setCell ⟨w0.heap.size + 1, 0, none⟩ (.bool true)).heap.size) := Lib.hid (by have := HZ.out; simp [World.setCell]; exact this)
  clear hq_
  clear HB HD HN HR HBW HZ
  have HB := n0_
  have HD := n1_
  have HN := n2_
  have HR := n3_
  have HBW := n4_
  have HZ := n5_
  clear n0_ n1_ n2_ n3_ n4_ n5_
  generalize w2.setCell ⟨w0.heap.size + 1, 0, none⟩ (.bool true) = w3 at *
  have k_r := cell_of_row _ _ 0 _ _ _ HR.out
  have k_n := cell_of_row _ _ 0 _ _ _ HN.out
  go_upto_if 41 with fail
  clear k_r k_n
  go_cut [41] (fun v41 wc => Aside0 (Below w0.heap.size w0 wc ∧ (∀ q, w0.heap.size + 2 ≤ q → q < w.heap.size → wc.heap[q]? = w.heap[q]?) ∧ wc.heap[w0.heap.size]? = some (.cells #[.int .i64 (k : Nat)] 3 (0, 0)) ∧ wc.heap[w0.heap.size + 1]? = some (.cells #[.bool true] 4 (0, 0)) ∧ Below w0.heap.size w wc ∧ w.heap.size ≤ wc.heap.size))
  case first =>
    by_cases h2 : k < 2
    · skip
      have dk : decide ((k : Int) < 2) = true := decide_eq_true (by omega)
      have k_r := cell_of_row _ _ 0 _ _ _ HR.out
      have k_n := cell_of_row _ _ 0 _ _ _ HN.out
      have k_w := cell_of_row _ _ 0 _ _ _ (row_below HB.out GW.out)
      have k_p := cell_of_row _ _ 0 _ _ _ (row_below HB.out GP.out)
      have k_t := cell_of_row _ _ 0 _ _ _ (row_below HB.out GT.out)
      have k_i := cell_of_row _ _ 0 _ _ _ (row_below HB.out GI.out)
      have k_j := cell_of_row _ _ 0 _ _ _ (row_below HB.out GJ.out)
      have k_x := cell_of_row _ _ 0 _ _ _ (row_below HB.out GX.out)
      have k_m := cell_of_row _ _ 0 _ _ _ (row_below HB.out GM.out)
      have r_i := pw_cell_below2 HB.out RCI.out
      have r_j := pw_cell_below2 HB.out RCJ.out
      have f_r := frozen_of_row _ _ 0 _ _ HR.out
      have di0 : (0 : Int) ≤ (i : Int) := by omega
      have di1 : (i : Int) < (m : Int) := by omega
      have dj0 : (0 : Int) ≤ (j : Int) := by omega
      have dj1 : (j : Int) < (m : Int) := by omega
      have wk1 : IntKind.i64.wrap ((k : Int) + 1) = (k : Int) + 1 := IntWalk.i64_in _ ⟨by omega, by omega⟩
      go_upto_region 3 with fail
      have n_w : wb ≠ w0.heap.size + 1 := by have := blk_lt GW.out; omega
      have n_p : pb ≠ w0.heap.size + 1 := by have := blk_lt GP.out; omega
      have n_t : tb ≠ w0.heap.size + 1 := by have := blk_lt GT.out; omega
      have n_i : ib ≠ w0.heap.size + 1 := by have := blk_lt GI.out; omega
      have n_j : jb ≠ w0.heap.size + 1 := by have := blk_lt GJ.out; omega
      have n_x : xb ≠ w0.heap.size + 1 := by have := blk_lt GX.out; omega
      have n_m : mb ≠ w0.heap.size + 1 := by have := blk_lt GM.out; omega
      have m_w := (show w0.heap.size + 1 ≠ wb from fun e => n_w e.symm)
      have m_p := (show w0.heap.size + 1 ≠ pb from fun e => n_p e.symm)
      have m_t := (show w0.heap.size + 1 ≠ tb from fun e => n_t e.symm)
      have m_i := (show w0.heap.size + 1 ≠ ib from fun e => n_i e.symm)
      have m_j := (show w0.heap.size + 1 ≠ jb from fun e => n_j e.symm)
      have m_x := (show w0.heap.size + 1 ≠ xb from fun e => n_x e.symm)
      have m_m := (show w0.heap.size + 1 ≠ mb from fun e => n_m e.symm)
      have n_ri : (aI.add i).block ≠ w0.heap.size + 1 := by have := cell_lt2 RCI.out; omega
      have n_rj : (aI.add j).block ≠ w0.heap.size + 1 := by have := cell_lt2 RCJ.out; omega
      have o_ri : aI.add i ≠ ⟨w0.heap.size + 1, 0, none⟩ := fun e => n_ri (by rw [e])
      have o_rj : aI.add j ≠ ⟨w0.heap.size + 1, 0, none⟩ := fun e => n_rj (by rw [e])
      have o2_ri : (⟨w0.heap.size + 1, 0, none⟩ : Addr) ≠ aI.add i := fun e => n_ri (by rw [← e])
      have o2_rj : (⟨w0.heap.size + 1, 0, none⟩ : Addr) ≠ aI.add j := fun e => n_rj (by rw [← e])
      go_region_held3 (fun w' => w'.cell? ⟨wb, 0, none⟩ = some (.slice (some a3) (scanT si.data.toList 0 none).length c3) ∧ w'.cell? ⟨pb, 0, none⟩ = some (.slice (some a4) (scanT si.data.toList 0 none).length c4) ∧ w'.cell? ⟨tb, 0, none⟩ = some (.slice (some aI) m cI) ∧ w'.cell? ⟨ib, 0, none⟩ = some (.int .i64 (i : Nat)) ∧ w'.cell? ⟨jb, 0, none⟩ = some (.int .i64 (j : Nat)) ∧ w'.cell? ⟨xb, 0, none⟩ = some (.slice A5 (scanT sj.data.toList 0 none).length c5) ∧ w'.cell? ⟨mb, 0, none⟩ = some (.slice A6 (scanT sj.data.toList 0 none).length c6) ∧ w'.cell? ⟨w0.heap.size, 0, none⟩ = some (.int .i64 (k : Nat)) ∧ w'.cell? (aI.add i) = some (.func (.func 35) #[] #[.pointer (some ⟨bi, 0, none⟩)]) ∧ w'.cell? (aI.add j) = some (.func (.func 35) #[] #[.pointer (some ⟨bj, 0, none⟩)]) ∧ w'.frozen? ⟨w0.heap.size + 1, 0, none⟩ = false) (((try dsimp only); ((repeat' apply And.intro) <;> first | exact cell_set_far r_i n_ri | exact cell_set_far r_j n_rj | (go_keep; done)))) ((first | (go_at_call 23; (with_reducible refine (goes_calls si bi (some a3) (some a4) c3 c4 ((k : Int) + 1) _ hsi (row_below (by repeat (first | (with_reducible exact HB.out) | (with_reducible apply below_drew) | (with_reducible apply pw_below_drewN) | exact HB.out)) GTI.out) (Kd.C_below HC3.out (by repeat (first | (with_reducible exact HB.out) | (with_reducible apply below_drew) | (with_reducible apply pw_below_drewN) | exact HB.out))) (Kd.C_below HC4.out (by repeat (first | (with_reducible exact HB.out) | (with_reducible apply below_drew) | (with_reducible apply pw_below_drewN) | exact HB.out)))).mono ?_); rintro e u_ ⟨rfl, hb⟩; have n0_ : Hid (Below w0.heap.size w0 u_) := Lib.hid ((show Below w0.heap.size w0 _ from (by repeat (first | (with_reducible exact HB.out) | (with_reducible apply below_drew) | (with_reducible apply pw_below_drewN) | exact HB.out))).trans (hb.mono (show w0.heap.size ≤ _ from (show Below w0.heap.size w0 _ from (by repeat (first | (with_reducible exact HB.out) | (with_reducible apply below_drew) | (with_reducible apply pw_below_drewN) | exact HB.out))).size))); have n4_ : Hid (Below w0.heap.size w u_) := Lib.hid ((show Below w0.heap.size w _ from (by repeat (first | (with_reducible exact HBW.out) | (with_reducible apply below_drew) | (with_reducible apply pw_below_drewN) | exact HBW.out))).trans (hb.mono (show w0.heap.size ≤ _ from (show Below w0.heap.size w0 _ from (by repeat (first | (with_reducible exact HB.out) | (with_reducible apply below_drew) | (with_reducible apply pw_below_drewN) | exact HB.out))).size))); have n5_ : Hid (w.heap.size ≤ u_.heap.size) := Lib.hid (Nat.le_trans HZ.out hb.size); have n1_ : Hid (∀ q, w0.heap.size + 2 ≤ q → q < w.heap.size → u_.heap[q]? = w.heap[q]?) := Lib.hid (fun q h1 h2 => (hb.block q (Nat.lt_of_lt_of_le h2 HZ.out)).trans (HD.out q h1 h2)); have n2_ : Hid (u_.heap[w0.heap.size]? = some (.cells #[.int .i64 (k : Nat)] 3 (0, 0))) := Lib.hid ((hb.block _ (Array.getElem?_eq_some_iff.1 HN.out).1).trans HN.out); have n3_ : Hid (u_.heap[w0.heap.size + 1]? = some (.cells #[.bool true] 4 (0, 0))) := Lib.hid ((hb.block _ (Array.getElem?_eq_some_iff.1 HR.out).1).trans HR.out); clear HB HD HN HR HBW HZ; have HB := n0_; have HD := n1_; have HN := n2_; have HR := n3_; have HBW := n4_; have HZ := n5_; clear n0_ n1_ n2_ n3_ n4_ n5_; have k_w := pw_cell_below hb (a := ⟨wb, 0, none⟩) (v := .slice (some a3) (scanT si.data.toList 0 none).length c3) (by first | assumption | go_simp); have k_p := pw_cell_below hb (a := ⟨pb, 0, none⟩) (v := .slice (some a4) (scanT si.data.toList 0 none).length c4) (by first | assumption | go_simp); have k_t := pw_cell_below hb (a := ⟨tb, 0, none⟩) (v := .slice (some aI) m cI) (by first | assumption | go_simp); have k_i := pw_cell_below hb (a := ⟨ib, 0, none⟩) (v := .int .i64 (i : Nat)) (by first | assumption | go_simp); have k_j := pw_cell_below hb (a := ⟨jb, 0, none⟩) (v := .int .i64 (j : Nat)) (by first | assumption | go_simp); have k_x := pw_cell_below hb (a := ⟨xb, 0, none⟩) (v := .slice A5 (scanT sj.data.toList 0 none).length c5) (by first | assumption | go_simp); have k_m := pw_cell_below hb (a := ⟨mb, 0, none⟩) (v := .slice A6 (scanT sj.data.toList 0 none).length c6) (by first | assumption | go_simp); have k_n := pw_cell_below hb (a := ⟨w0.heap.size, 0, none⟩) (v := .int .i64 (k : Nat)) (by first | assumption | go_simp); have k_r := pw_cell_below hb (a := ⟨w0.heap.size + 1, 0, none⟩) (v := .bool true) (by first | assumption | go_simp); have r_i := pw_cell_below hb (a := (aI.add i)) (v := .func (.func 35) #[] #[.pointer (some ⟨bi, 0, none⟩)]) (by first | assumption | go_simp); have r_j := pw_cell_below hb (a := (aI.add j)) (v := .func (.func 35) #[] #[.pointer (some ⟨bj, 0, none⟩)]) (by first | assumption | go_simp); have f_r := frozen_of_row _ _ 0 _ _ HR.out; clear hb) | (go_at_call 23; (with_reducible refine (goes_calls sj bj A5 A6 c5 c6 0 _ hsj (row_below (by repeat (first | (with_reducible exact HB.out) | (with_reducible apply below_drew) | (with_reducible apply pw_below_drewN) | exact HB.out)) GTJ.out) (Kd.C_below HC5.out (by repeat (first | (with_reducible exact HB.out) | (with_reducible apply below_drew) | (with_reducible apply pw_below_drewN) | exact HB.out))) (Kd.C_below HC6.out (by repeat (first | (with_reducible exact HB.out) | (with_reducible apply below_drew) | (with_reducible apply pw_below_drewN) | exact HB.out)))).mono ?_); rintro e u_ ⟨rfl, hb⟩; have n0_ : Hid (Below w0.heap.size w0 u_) := Lib.hid ((show Below w0.heap.size w0 _ from (by repeat (first | (with_reducible exact HB.out) | (with_reducible apply below_drew) | (with_reducible apply pw_below_drewN) | exact HB.out))).trans (hb.mono (show w0.heap.size ≤ _ from (show Below w0.heap.size w0 _ from (by repeat (first | (with_reducible exact HB.out) | (with_reducible apply below_drew) | (with_reducible apply pw_below_drewN) | exact HB.out))).size))); have n4_ : Hid (Below w0.heap.size w u_) := Lib.hid ((show Below w0.heap.size w _ from (by repeat (first | (with_reducible exact HBW.out) | (with_reducible apply below_drew) | (with_reducible apply pw_below_drewN) | exact HBW.out))).trans (hb.mono (show w0.heap.size ≤ _ from (show Below w0.heap.size w0 _ from (by repeat (first | (with_reducible exact HB.out) | (with_reducible apply below_drew) | (with_reducible apply pw_below_drewN) | exact HB.out))).size))); have n5_ : Hid (w.heap.size ≤ u_.heap.size) := Lib.hid (Nat.le_trans HZ.out hb.size); have n1_ : Hid (∀ q, w0.heap.size + 2 ≤ q → q < w.heap.size → u_.heap[q]? = w.heap[q]?) := Lib.hid (fun q h1 h2 => (hb.block q (Nat.lt_of_lt_of_le h2 HZ.out)).trans (HD.out q h1 h2)); have n2_ : Hid (u_.heap[w0.heap.size]? = some (.cells #[.int .i64 (k : Nat)] 3 (0, 0))) := Lib.hid ((hb.block _ (Array.getElem?_eq_some_iff.1 HN.out).1).trans HN.out); have n3_ : Hid (u_.heap[w0.heap.size + 1]? = some (.cells #[.bool true] 4 (0, 0))) := Lib.hid ((hb.block _ (Array.getElem?_eq_some_iff.1 HR.out).1).trans HR.out); clear HB HD HN HR HBW HZ; have HB := n0_; have HD := n1_; have HN := n2_; have HR := n3_; have HBW := n4_; have HZ := n5_; clear n0_ n1_ n2_ n3_ n4_ n5_; have k_w := pw_cell_below hb (a := ⟨wb, 0, none⟩) (v := .slice (some a3) (scanT si.data.toList 0 none).length c3) (by first | assumption | go_simp); have k_p := pw_cell_below hb (a := ⟨pb, 0, none⟩) (v := .slice (some a4) (scanT si.data.toList 0 none).length c4) (by first | assumption | go_simp); have k_t := pw_cell_below hb (a := ⟨tb, 0, none⟩) (v := .slice (some aI) m cI) (by first | assumption | go_simp); have k_i := pw_cell_below hb (a := ⟨ib, 0, none⟩) (v := .int .i64 (i : Nat)) (by first | assumption | go_simp); have k_j := pw_cell_below hb (a := ⟨jb, 0, none⟩) (v := .int .i64 (j : Nat)) (by first | assumption | go_simp); have k_x := pw_cell_below hb (a := ⟨xb, 0, none⟩) (v := .slice A5 (scanT sj.data.toList 0 none).length c5) (by first | assumption | go_simp); have k_m := pw_cell_below hb (a := ⟨mb, 0, none⟩) (v := .slice A6 (scanT sj.data.toList 0 none).length c6) (by first | assumption | go_simp); have k_n := pw_cell_below hb (a := ⟨w0.heap.size, 0, none⟩) (v := .int .i64 (k : Nat)) (by first | assumption | go_simp); have k_r := pw_cell_below hb (a := ⟨w0.heap.size + 1, 0, none⟩) (v := .bool true) (by first | assumption | go_simp); have r_i := pw_cell_below hb (a := (aI.add i)) (v := .func (.func 35) #[] #[.pointer (some ⟨bi, 0, none⟩)]) (by first | assumption | go_simp); have r_j := pw_cell_below hb (a := (aI.add j)) (v := .func (.func 35) #[] #[.pointer (some ⟨bj, 0, none⟩)]) (by first | assumption | go_simp); have f_r := frozen_of_row _ _ 0 _ _ HR.out; clear hb)))
      all_goals go_wp2
      all_goals go_meet
      all_goals have hq_ := blk1 HR.out (.bool true)
      all_goals exact ⟨HB.out.setCell (p := ⟨w0.heap.size + 1, 0, none⟩) (show w0.heap.size ≤ w0.heap.size + 1 by omega) (.bool true), fun q h1 h2 => (hq_.2 q (by omega)).trans (HD.out q h1 h2), (hq_.2 (w0.heap.size) (by omega)).trans HN.out, hq_.1, HBW.out.setCell (p := ⟨w0.heap.size + 1, 0, none⟩) (show w0.heap.size ≤ w0.heap.size + 1 by omega) (.bool true), by have := HZ.out; simp [World.setCell]; exact this⟩
    · skip
      have dk : decide ((k : Int) < 2) = false := decide_eq_false (by omega)
      have k_r := cell_of_row _ _ 0 _ _ _ HR.out
      have k_n := cell_of_row _ _ 0 _ _ _ HN.out
      go_wp2
      go_meet
      exact ⟨HB.out, HD.out, HN.out, HR.out, HBW.out, HZ.out⟩
  case rest =>
    have HQ := hcut
    clear hcut HB HD HN HR HBW HZ
    have HB := Lib.hid HQ.out.1
    have HD := Lib.hid HQ.out.2.1
    have HN := Lib.hid HQ.out.2.2.1
    have HR := Lib.hid HQ.out.2.2.2.1
    have HBW := Lib.hid HQ.out.2.2.2.2.1
    clear HQ
    have k_n := cell_of_row _ _ 0 _ _ _ HN.out
    have f_n := frozen_of_row _ _ 0 _ _ HN.out
    have wk1 : IntKind.i64.wrap ((k : Int) + 1) = (k : Int) + 1 := IntWalk.i64_in _ ⟨by omega, by omega⟩
    obtain ⟨g1, g2⟩ := blk1 HN.out (.int .i64 ((k : Int) + 1))
    have hr5 := (g2 (w0.heap.size + 1) (by omega)).trans HR.out
    have hb5 := HBW.out.setCell (p := ⟨w0.heap.size, 0, none⟩) (Nat.le_refl _) (.int .i64 ((k : Int) + 1))
    have hd5 := fun q (h1 : w0.heap.size + 2 ≤ q) (h2 : q < w.heap.size) => (g2 q (by omega)).trans (HD.out q h1 h2)
    have G1 := Lib.hid g1
    have HR5 := Lib.hid hr5
    have HB5 := Lib.hid hb5
    have HD5 := Lib.hid hd5
    clear g1 g2 hr5 hb5 hd5
    go_upto_region 5 with fail
    clear k_n f_n
    generalize wc.setCell ⟨w0.heap.size, 0, none⟩ (.int .i64 ((k : Int) + 1)) = w6 at *
    have k_r := cell_of_row _ _ 0 _ _ _ HR5.out
    go_wp2
    go_ret
    exact ⟨rfl, G1.out, HR5.out, HB5.out, HD5.out⟩
end Go.Proofs.Ytcndhgpaoihblaa.Fr
