/- goes: the iterator of a text tells the text's frames. Here its teller. -/
import Derived.Test.YtcndhgpaoihblaaGq
import Derived.Test.YtcndhgpaoihblaaTold
import Derived.StillTailTactics
namespace Go.Proofs.Ytcndhgpaoihblaa.Fr
open Go.RowKit Go.Proofs.YtcndhgpaoihblaaW.PrintWords
open Plain Crc
theorem eqS49 (d : Nat) (w : World) (x0 x1 x2 : Int) (s : ByteArray) :
    (Op.equalIn (d + 2) 49 (.agg #[.int .i64 x0, .int .i64 x1, .int .i64 x2, .string s]) (.agg #[.int .i64 x0, .int .i64 x1, .int .i64 x2, .string s])).run Try.prog w = .ok true w := by
  have h : (Op.equalIn (d + 2) 49 (.agg #[.int .i64 x0, .int .i64 x1, .int .i64 x2, .string s]) (.agg #[.int .i64 x0, .int .i64 x1, .int .i64 x2, .string s])).run Try.prog w = .ok (true && (true && (true && true))) w := by
    refine eqA_of Try.underlying49 (by kernel_rfl) ?_
    refine eqf_cons (by rfl) (by go_simp; rfl) (by go_simp; rfl) (by go_simp) ?_
    refine eqf_cons (by rfl) (by go_simp; rfl) (by go_simp; rfl) (by go_simp) ?_
    refine eqf_cons (by rfl) (by go_simp; rfl) (by go_simp; rfl) (by go_simp) ?_
    exact eqf_last (by rfl) (by go_simp; rfl) (by go_simp; rfl) (by go_simp)
  exact h
attribute [local go_sem high] eqS49
/-- What stands in the two lists at the k-th frame's places. -/
structure At (A3 A4 : Option Addr) (lim k : Nat) (x : Seen) (w : World) : Prop where
  mk :: (ex : ∃ a3 a4, A3 = some a3 ∧ A4 = some a4 ∧ (a3.add (k * 4)).block < lim ∧ (a4.add k).block < lim ∧ w.cell? (a3.add (k * 4)) = some (.int .i64 (x.kind : Int)) ∧ w.cell? ⟨(a3.add (k * 4)).block, (a3.add (k * 4)).off + 1, none⟩ = some (.int .i64 (x.number : Int)) ∧
    w.cell? ⟨(a3.add (k * 4)).block, (a3.add (k * 4)).off + 2, none⟩ = some (.int .i64 (x.at_ : Int)) ∧ w.cell? ⟨(a3.add (k * 4)).block, (a3.add (k * 4)).off + 3, none⟩ = some (.string ⟨x.body.toArray⟩) ∧ w.cell? (a4.add k) = some (.int .i64 (x.next : Int)))
theorem cell_same {w w' : World} {p : Addr} {v : Value} (h : w.cell? p = some v) (hb : w'.heap[p.block]? = w.heap[p.block]?) : w'.cell? p = some v := by
  rw [← h]
  unfold World.cell?
  rw [hb]
theorem At.move {A3 A4 : Option Addr} {lim k : Nat} {x : Seen} {w w' : World} (h : At A3 A4 lim k x w) (hm : ∀ j, j < lim → w'.heap[j]? = w.heap[j]?) : At A3 A4 lim k x w' := by
  obtain ⟨a3, a4, e3, e4, l3, l4, h0, h1, h2, h3, h4⟩ := h.ex
  exact ⟨a3, a4, e3, e4, l3, l4, cell_same h0 (hm _ l3), cell_same h1 (hm _ l3), cell_same h2 (hm _ l3), cell_same h3 (hm _ l3), cell_same h4 (hm _ l4)⟩
theorem blk1 {w : World} {g t : Nat} {v : Value} (h : w.heap[g]? = some (.cells #[v] t (0, 0))) (v' : Value) : (w.setCell ⟨g, 0, none⟩ v').heap[g]? = some (.cells #[v'] t (0, 0)) ∧ ∀ j, j ≠ g → (w.setCell ⟨g, 0, none⟩ v').heap[j]? = w.heap[j]? :=
  ⟨by rw [heap_setCell_same _ _ _ _ _ _ h]; rfl, fun _ hj => heap_setCell_other _ _ _ _ hj⟩
set_option maxHeartbeats 4000000 in
set_option maxRecDepth 100000 in
theorem goes1_calls (base rb ob nb wb pb tb lim : Nat) (A3 A4 : Option Addr) (len c3 c4 k : Nat) (x : Seen) (stop : Int) (w : World) (hlim : lim ≤ w.heap.size) (hbr : base ≤ rb) (hbo : base ≤ ob) (hbn : base ≤ nb) (hbs : base ≤ w.heap.size)
    (h_r : w.heap[rb]? = some (.cells #[.bool true] 4 (0, 0))) (h_o : w.heap[ob]? = some (.cells #[.bool false] 4 (0, 0))) (h_n : w.heap[nb]? = some (.cells #[.int .i64 (k : Nat)] 3 (0, 0)))
    (h_w : w.heap[wb]? = some (.cells #[.slice A3 len c3] 43 (0, 0))) (h_p : w.heap[pb]? = some (.cells #[.slice A4 len c4] 44 (0, 0))) (h_t : w.heap[tb]? = some (.cells #[.int .i64 stop] 3 (0, 0)))
    (hnt : nb ≠ tb) (hro : rb ≠ ob) (hk : k < len) (hl : len ≤ 1099511627776) (hA : At A3 A4 lim k x w) :
    Calls Try.prog 38 #[.int .i64 x.next, .agg #[.int .i64 x.kind, .int .i64 x.number, .int .i64 x.at_, .string ⟨x.body.toArray⟩], .pointer (some ⟨rb, 0, none⟩), .pointer (some ⟨ob, 0, none⟩), .pointer (some ⟨nb, 0, none⟩), .pointer (some ⟨wb, 0, none⟩), .pointer (some ⟨pb, 0, none⟩), .pointer (some ⟨tb, 0, none⟩)] w fun e w' =>
      e = .returned (.bool (!((k : Int) + 1 == stop))) ∧ w'.heap[rb]? = some (.cells #[.bool true] 4 (0, 0)) ∧ w'.heap[ob]? = some (.cells #[.bool ((k : Int) + 1 == stop)] 4 (0, 0)) ∧ w'.heap[nb]? = some (.cells #[.int .i64 ((k + 1 : Nat) : Int)] 3 (0, 0)) ∧
      (∀ j, j < w.heap.size → j ≠ rb → j ≠ ob → j ≠ nb → w'.heap[j]? = w.heap[j]?) ∧ Below base w w' := by
  obtain ⟨a3, a4, rfl, rfl, l3, l4, r0, r1, r2, r3, r4⟩ := hA.ex
  have lt_r : rb < w.heap.size := (Array.getElem?_eq_some_iff.1 h_r).1
  have lt_o : ob < w.heap.size := (Array.getElem?_eq_some_iff.1 h_o).1
  have lt_n : nb < w.heap.size := (Array.getElem?_eq_some_iff.1 h_n).1
  have hrn : rb ≠ nb := fun e => by rw [e, h_n] at h_r; simp at h_r
  have hon : ob ≠ nb := fun e => by rw [e, h_n] at h_o; simp at h_o
  have hrw : rb ≠ wb := fun e => by rw [e, h_w] at h_r; simp at h_r
  have hrp : rb ≠ pb := fun e => by rw [e, h_p] at h_r; simp at h_r
  have hrt : rb ≠ tb := fun e => by rw [e, h_t] at h_r; simp at h_r
  have hot : ob ≠ tb := fun e => by rw [e, h_t] at h_o; simp at h_o
  have old : ∀ j, j < w.heap.size → (w.alloc (.cells #[.int .i64 x.kind, .int .i64 x.number, .int .i64 x.at_, .string ⟨x.body.toArray⟩] 49)).heap[j]? = w.heap[j]? := fun j hj => Below.heap_alloc _ _ _ hj
  have hnew := heap_alloc_new w (.cells #[.int .i64 x.kind, .int .i64 x.number, .int .i64 x.at_, .string ⟨x.body.toArray⟩] 49)
  have hbel := (Below.refl base w).alloc hbs (.cells #[.int .i64 x.kind, .int .i64 x.number, .int .i64 x.at_, .string ⟨x.body.toArray⟩] 49)
  have k0 := cell_of_row _ _ 0 _ _ _ ((old _ lt_r).trans h_r)
  have k1 := cell_of_row _ _ 0 _ _ _ ((old _ lt_o).trans h_o)
  have k2 := cell_of_row _ _ 0 _ _ _ ((old _ lt_n).trans h_n)
  have k3 := cell_of_row _ _ 0 _ _ _ ((old _ (Array.getElem?_eq_some_iff.1 h_w).1).trans h_w)
  have k4 := cell_of_row _ _ 0 _ _ _ ((old _ (Array.getElem?_eq_some_iff.1 h_p).1).trans h_p)
  have f0 := frozen_of_row _ _ 0 _ _ ((old _ lt_r).trans h_r)
  have q0 := cell_same r0 (old _ (Nat.lt_of_lt_of_le l3 hlim))
  have q1 := cell_same r1 (old _ (Nat.lt_of_lt_of_le l3 hlim))
  have q2 := cell_same r2 (old _ (Nat.lt_of_lt_of_le l3 hlim))
  have q3 := cell_same r3 (old _ (Nat.lt_of_lt_of_le l3 hlim))
  have q4 := cell_same r4 (old _ (Nat.lt_of_lt_of_le l4 hlim))
  have z0 := cell_of_row _ _ 0 _ _ _ hnew
  have z1 := cell_of_row _ _ 1 _ _ _ hnew
  have z2 := cell_of_row _ _ 2 _ _ _ hnew
  have z3 := cell_of_row _ _ 3 _ _ _ hnew
  have HR := Lib.hid ((old _ lt_r).trans h_r)
  have HO := Lib.hid ((old _ lt_o).trans h_o)
  have HN := Lib.hid ((old _ lt_n).trans h_n)
  have HT := Lib.hid ((old _ (Array.getElem?_eq_some_iff.1 h_t).1).trans h_t)
  have OLD := Lib.hid old
  have HBEL := Lib.hid hbel
  clear r0 r1 r2 r3 r4 h_r h_o h_n h_w h_p h_t hnew hbel hA old
  have d1 : decide ((k : Int) < (len : Int)) = true := decide_eq_true (by omega)
  have d2 : (0 : Int) ≤ (k : Int) := by omega
  have d3 : (k : Int) < (len : Int) := by omega
  go_enter Try.func38, Try.ntmps38
  go_wp2_with fail
  generalize w.alloc (.cells #[.int .i64 x.kind, .int .i64 x.number, .int .i64 x.at_, .string ⟨x.body.toArray⟩] 49) = w1 at *
  go_still_tail 27, (by kernel_rfl)
  change wpList _ _ _ _ _ (World.drew _)
  have h2 : ∀ j, j < w.heap.size → w1.drew.heap[j]? = w.heap[j]? := OLD.out
  have hr2 : w1.drew.heap[rb]? = some (.cells #[.bool true] 4 (0, 0)) := HR.out
  have ho2 : w1.drew.heap[ob]? = some (.cells #[.bool false] 4 (0, 0)) := HO.out
  have hn2 : w1.drew.heap[nb]? = some (.cells #[.int .i64 (k : Nat)] 3 (0, 0)) := HN.out
  have ht2 : w1.drew.heap[tb]? = some (.cells #[.int .i64 stop] 3 (0, 0)) := HT.out
  have hb2 : Below base w w1.drew := below_drew HBEL.out
  have hz2 : w.heap.size ≤ w1.drew.heap.size := hb2.size
  clear k0 k1 k2 k3 k4 f0 q0 q1 q2 q3 q4 z0 z1 z2 z3 HR HO HN HT OLD HBEL
  generalize w1.drew = w2 at *
  have f0 := frozen_of_row _ _ 0 _ _ hr2
  have k0 := cell_of_row _ _ 0 _ _ _ hr2
  obtain ⟨g1, g2⟩ := blk1 hr2 (.bool true)
  have hr3 := g1
  have ho3 := (g2 _ hro.symm).trans ho2
  have hn3 := (g2 _ hrn.symm).trans hn2
  have ht3 := (g2 _ hrt.symm).trans ht2
  have h3 := fun j (hj : j < w.heap.size) (hne : j ≠ rb) => (g2 j hne).trans (h2 j hj)
  have hb3 := hb2.setCell (p := ⟨rb, 0, none⟩) hbr (.bool true)
  have hu := Lib.hid hr2
  clear g1 g2 hr2 ho2 hn2 ht2 h2 hb2
  go_upto_region 2 with fail
  clear f0 k0 hu
  generalize w2.setCell ⟨rb, 0, none⟩ (.bool true) = w3 at *
  have f0 := frozen_of_row _ _ 0 _ _ hn3
  have k0 := cell_of_row _ _ 0 _ _ _ hn3
  have hw : IntKind.i64.wrap ((k : Int) + 1) = (k : Int) + 1 := IntWalk.i64_in _ ⟨by omega, by omega⟩
  obtain ⟨g1, g2⟩ := blk1 hn3 (.int .i64 ((k : Int) + 1))
  have hn4 := g1
  have hr4 := (g2 _ hrn).trans hr3
  have ho4 := (g2 _ hon).trans ho3
  have ht4 := (g2 _ hnt.symm).trans ht3
  have h4 := fun j (hj : j < w.heap.size) (hne : j ≠ rb) (hn : j ≠ nb) => (g2 j hn).trans (h3 j hj hne)
  have hb4 := hb3.setCell (p := ⟨nb, 0, none⟩) hbn (.int .i64 ((k : Int) + 1))
  clear g1 g2 hr3 ho3 hn3 ht3 h3 hb3
  go_upto_region 3 with fail
  clear f0 k0
  generalize w3.setCell ⟨nb, 0, none⟩ (.int .i64 ((k : Int) + 1)) = w4 at *
  have f0 := frozen_of_row _ _ 0 _ _ ho4
  have k2 := cell_of_row _ _ 0 _ _ _ ho4
  have k0 := cell_of_row _ _ 0 _ _ _ hn4
  have k1 := cell_of_row _ _ 0 _ _ _ ht4
  obtain ⟨bv, hbv⟩ : ∃ v, ((k : Int) + 1 == stop) = v := ⟨_, rfl⟩
  obtain ⟨g1, g2⟩ := blk1 ho4 (.bool bv)
  have ho5 := g1
  have hr5 := (g2 _ hro).trans hr4
  have hn5 := (g2 _ hon.symm).trans hn4
  have h5 := fun j (hj : j < w.heap.size) (hne : j ≠ rb) (ho : j ≠ ob) (hn : j ≠ nb) => (g2 j ho).trans (h4 j hj hne hn)
  have hb5 := hb4.setCell (p := ⟨ob, 0, none⟩) hbo (.bool bv)
  clear g1 g2 hr4 ho4 hn4 ht4 h4 hb4
  go_upto_region 4 with fail
  clear f0 k0 k1 k2
  generalize w4.setCell ⟨ob, 0, none⟩ (.bool bv) = w5 at *
  have k0 := cell_of_row _ _ 0 _ _ _ ho5
  have k1 := cell_of_row _ _ 0 _ _ _ hr5
  have H5 := Lib.hid h5
  have HB5 := Lib.hid hb5
  have HR5 := Lib.hid hr5
  have HO5 := Lib.hid ho5
  have HN5 := Lib.hid hn5
  have HBV := Lib.hid hbv
  clear h5 hb5 hr5 ho5 hn5 hbv
  cases bv with
  | true =>
    go_wp2
    go_ret
    exact ⟨by rw [HBV.out]; rfl, HR5.out, by rw [HBV.out]; exact HO5.out, HN5.out, H5.out, HB5.out⟩
  | false =>
    go_wp2
    go_ret
    exact ⟨by rw [HBV.out]; rfl, HR5.out, by rw [HBV.out]; exact HO5.out, HN5.out, H5.out, HB5.out⟩
end Go.Proofs.Ytcndhgpaoihblaa.Fr
