import Derived.Test.YtjlchnmpebdggaaDoorRds6
import Derived.Laws.Rows
import Derived.BigRegion
import Derived.Test.YtjlchnmpebdggaaDoorRds5
import Derived.Test.YtjlchnmpebdggaaDoorRds3
import Derived.Test.YtjlchnmpebdggaaDoorRds1
section
namespace Go.Proofs.YtjlchnmpebdggaaDoor.Mo
open Go.RowKit Go.Proofs.YtjlchnmpebdggaaDoorW.PrintWords
def OkQ (s : ByteArray) (q : St) : Prop := q.1 ≤ s.size ∧ q.2.2.size ≤ s.size
theorem okq_nx {s : ByteArray} {q : St} (h : OkQ s q) : OkQ s (nx s q) := ⟨nx_le s q h.1, nx_text s q⟩
theorem okq_week {s : ByteArray} {q : St} (h : OkQ s q) : OkQ s (weekS s q) := by
  unfold weekS; split
  · exact okq_nx (okq_nx h)
  · exact h
theorem okq_second {s : ByteArray} {q : St} (h : OkQ s q) : OkQ s (secondS s q) := by
  unfold secondS; split
  · exact okq_nx (okq_nx h)
  · exact h
def hq1 (s : ByteArray) : St := nx s (0, 0, ⟨#[]⟩)
def hq2 (s : ByteArray) : St := weekS s (hq1 s)
def hq3 (s : ByteArray) : St := nx s (hq2 s)
def hq4 (s : ByteArray) : St := nx s (hq3 s)
def hq5 (s : ByteArray) : St := nx s (hq4 s)
def hq6 (s : ByteArray) : St := nx s (hq5 s)
def hq7 (s : ByteArray) : St := nx s (hq6 s)
def hq8 (s : ByteArray) : St := nx s (hq7 s)
def hq9 (s : ByteArray) : St := secondS s (hq8 s)
def hq10 (s : ByteArray) : St := zoneCS s (hq9 s)
def headB (s : ByteArray) : List Bool := [weekP s (hq1 s), (shortP 99 (hq2 s)).2, (monthP (hq3 s)).2, (yearP (hq4 s)).2, (shortP 23 (hq5 s)).2, (hq6 s).2.1 == 5, (shortP 59 (hq7 s)).2, (secondP s (hq8 s)).2]
def headOk (s : ByteArray) : Bool := ((zoneCP (hq9 s)).2 && (headB s).all id) && (hq10 s).2.1 == 0
def moment_ReadHeader.f (s : ByteArray) : Option (Int × Int × Int × Int × Int × Int × Int × Int) :=
  if s.size ≤ 140737488351232 then moment_read.f (yearP (hq4 s)).1 (monthP (hq3 s)).1 (shortP 99 (hq2 s)).1 (shortP 23 (hq5 s)).1 (shortP 59 (hq7 s)).1 (secondP s (hq8 s)).1 (zoneCP (hq9 s)).1 (headOk s) else none
def zeros7 : Array Value := #[.int .i64 0, .int .i64 0, .int .i64 0, .int .i64 0, .int .i64 0, .int .i64 0, .int .i64 0]
theorem curS_lt {c t : Nat} {s : ByteArray} {q : St} {w : World} (h : CurS c t s q w) : c < w.heap.size := by unfold CurS Cur at h; exact blk_lt h
structure RH (w : World) (R C M K : Nat) (s : ByteArray) (q : St) (mv kv : Array Value) (W : World) : Prop where
  cur : CurS C 61 s q W
  res : W.heap[R]? = some (.cells zeros7 23 (0, 0))
  mom : W.heap[M]? = some (.cells mv 23 (0, 0))
  oks : W.heap[K]? = some (.cells kv 62 (0, 0))
  below : Below w.heap.size w W
  rc : R < C
  cm : C < M
  lt3 : M < K
  wr : w.heap.size ≤ R
theorem RH.turn {w W W' : World} {R C M K : Nat} {s : ByteArray} {q q' : St} {mv kv : Array Value} (h : RH w R C M K s q mv kv W) (hc : CurS C 61 s q' W') (hT : Turned C W W') : RH w R C M K s q' mv kv W' :=
  ⟨hc, (hT.other R (blk_lt h.res) (Nat.ne_of_lt h.rc)).trans h.res, (hT.other M (blk_lt h.mom) (Nat.ne_of_gt h.cm)).trans h.mom, (hT.other K (blk_lt h.oks) (Nat.ne_of_gt (Nat.lt_trans h.cm h.lt3))).trans h.oks,
    hT.below _ _ h.below (Nat.le_of_lt (Nat.lt_of_le_of_lt h.wr h.rc)) h.below.size, h.rc, h.cm, h.lt3, h.wr⟩
theorem RH.mset {w W : World} {R C M K : Nat} {s : ByteArray} {q : St} {mv kv : Array Value} (h : RH w R C M K s q mv kv W) (j : Nat) (v : Value) (mv' : Array Value) (e : mv.setIfInBounds j v = mv') : RH w R C M K s q mv' kv (W.setCell ⟨M, j, none⟩ v) :=
  have h1 := h.rc
  have h2 := h.cm
  have h3 := h.lt3
  have h4 := h.wr
  ⟨(heap_setCell_other _ _ _ _ (Nat.ne_of_lt h2)).trans h.cur, (heap_setCell_other _ _ _ _ (Nat.ne_of_lt (Nat.lt_trans h1 h2))).trans h.res, blk_put h.mom j v e, (heap_setCell_other _ _ _ _ (Nat.ne_of_gt h3)).trans h.oks, h.below.setCell (p := ⟨M, j, none⟩) (by show w.heap.size ≤ M; omega) v, h1, h2, h3, h4⟩
theorem RH.kset {w W : World} {R C M K : Nat} {s : ByteArray} {q : St} {mv kv : Array Value} (h : RH w R C M K s q mv kv W) (j : Nat) (v : Value) (kv' : Array Value) (e : kv.setIfInBounds j v = kv') : RH w R C M K s q mv kv' (W.setCell ⟨K, j, none⟩ v) :=
  have h1 := h.rc
  have h2 := h.cm
  have h3 := h.lt3
  have h4 := h.wr
  ⟨(heap_setCell_other _ _ _ _ (Nat.ne_of_lt (Nat.lt_trans h2 h3))).trans h.cur, (heap_setCell_other _ _ _ _ (Nat.ne_of_lt (Nat.lt_trans h1 (Nat.lt_trans h2 h3)))).trans h.res, (heap_setCell_other _ _ _ _ (Nat.ne_of_lt h3)).trans h.mom, blk_put h.oks j v e, h.below.setCell (p := ⟨K, j, none⟩) (by show w.heap.size ≤ K; omega) v, h1, h2, h3, h4⟩
theorem RH.mcell {w W : World} {R C M K : Nat} {s : ByteArray} {q : St} {mv kv : Array Value} (h : RH w R C M K s q mv kv W) (j : Nat) : W.cell? ⟨M, j, none⟩ = mv[j]? ∧ W.frozen? ⟨M, j, none⟩ = false := ⟨blk_cell h.mom j, blk_frozen h.mom j⟩
theorem RH.kcell {w W : World} {R C M K : Nat} {s : ByteArray} {q : St} {mv kv : Array Value} (h : RH w R C M K s q mv kv W) (j : Nat) : W.cell? ⟨K, j, none⟩ = kv[j]? ∧ W.frozen? ⟨K, j, none⟩ = false := ⟨blk_cell h.oks j, blk_frozen h.oks j⟩
theorem bools_index (w : World) (b0 b1 b2 b3 b4 b5 b6 b7 : Bool) (n : Nat) (h : n < 8) : (Instr.index 62 (.agg #[.bool b0, .bool b1, .bool b2, .bool b3, .bool b4, .bool b5, .bool b6, .bool b7]) (.int .i64 (n : Int))).run Tryd.prog w = .ok (.bool ([b0, b1, b2, b3, b4, b5, b6, b7].getD n false)) w := by
  have : n = 0 ∨ n = 1 ∨ n = 2 ∨ n = 3 ∨ n = 4 ∨ n = 5 ∨ n = 6 ∨ n = 7 := by omega
  rcases this with rfl | rfl | rfl | rfl | rfl | rfl | rfl | rfl <;> (show _ = _; kernel_rfl)
set_option maxHeartbeats 4000000 in
set_option maxRecDepth 100000 in
theorem readHeader_calls (s : ByteArray) (r1 r2 r3 r4 r5 r6 r7 r8 : Int) (w : World) (hs : s.size ≤ 140737488351232)
    (h : moment_read.f (yearP (hq4 s)).1 (monthP (hq3 s)).1 (shortP 99 (hq2 s)).1 (shortP 23 (hq5 s)).1 (shortP 59 (hq7 s)).1 (secondP s (hq8 s)).1 (zoneCP (hq9 s)).1 (headOk s) = some (r1, r2, r3, r4, r5, r6, r7, r8)) (hL : Laid w) :
    Calls Tryd.prog 27 #[.string s] w fun e w' => e = .returned (.tuple #[.agg #[.int .i64 r1, .int .i64 r2, .int .i64 r3, .int .i64 r4, .int .i64 r5, .int .i64 r6, .int .i64 r7], .int .i64 r8]) ∧ Below w.heap.size w w' := by
  have O1 := Lib.hid (show OkQ s (hq1 s) from okq_nx ⟨Nat.zero_le _, Nat.zero_le _⟩)
  have O2 := Lib.hid (show OkQ s (hq2 s) from okq_week O1.out)
  have O3 := Lib.hid (show OkQ s (hq3 s) from okq_nx O2.out)
  have O4 := Lib.hid (show OkQ s (hq4 s) from okq_nx O3.out)
  have O5 := Lib.hid (show OkQ s (hq5 s) from okq_nx O4.out)
  have O6 := Lib.hid (show OkQ s (hq6 s) from okq_nx O5.out)
  have O7 := Lib.hid (show OkQ s (hq7 s) from okq_nx O6.out)
  have O8 := Lib.hid (show OkQ s (hq8 s) from okq_nx O7.out)
  have O9 := Lib.hid (show OkQ s (hq9 s) from okq_second O8.out)
  have HR := Lib.hid h
  have HL := Lib.hid hL
  clear h hL
  go_enter Tryd.func27, Tryd.ntmps27
  go_wp2_with fail
  have hcur : CurS (w.heap.size + 1) 61 s (0, 0, ⟨#[]⟩) ((w.alloc (.cells zeros7 23)).alloc (.cells #[.string s, .int .i64 0, .int .i64 0, .string ⟨#[]⟩] 61)) := by
    have := heap_alloc_new (w.alloc (.cells zeros7 23)) (.cells #[.string s, .int .i64 0, .int .i64 0, .string ⟨#[]⟩] 61)
    rw [show (w.alloc (.cells zeros7 23)).heap.size = w.heap.size + 1 from by simp] at this
    exact this
  refine (nx_calls (w.heap.size + 1) 61 s (0, 0, ⟨#[]⟩) _ hs (Nat.zero_le _) hcur).mono ?_
  rintro e w1 ⟨rfl, hc1, ht1⟩
  have hres1 : w1.heap[w.heap.size]? = some (.cells zeros7 23 (0, 0)) := by
    rw [ht1.other w.heap.size (by simp; omega) (by omega), Below.heap_alloc _ _ _ (by simp)]; exact heap_alloc_new _ _
  have hb1 : Below w.heap.size w w1 := ht1.below _ _ (below_alloc (below_alloc (Below.refl _ w) _) _) (by omega) (by simp; omega)
  have hlt1 := blk_lt hc1
  have HR1 := Lib.hid hres1
  have HB1 := Lib.hid hb1
  have HC1 := Lib.hid hc1
  clear hcur ht1 hres1 hb1 hc1
  go_wp2_with fail
  have H : Hid (RH w w.heap.size (w.heap.size + 1) w1.heap.size (w1.heap.size + 1) s (hq1 s) #[.int .i64 0, .int .i64 0, .int .i64 0, .int .i64 0, .int .i64 0, .int .i64 0, .int .i64 0] #[.bool false, .bool false, .bool false, .bool false, .bool false, .bool false, .bool false, .bool false] ((w1.alloc (.cells #[.int .i64 0, .int .i64 0, .int .i64 0, .int .i64 0, .int .i64 0, .int .i64 0, .int .i64 0] 23)).alloc (.cells #[.bool false, .bool false, .bool false, .bool false, .bool false, .bool false, .bool false, .bool false] 62))) := Lib.hid (by
    refine ⟨?_, ?_, ?_, ?_, below_alloc (below_alloc HB1.out _) _, by omega, by omega, by omega, Nat.le_refl _⟩
    · exact (Below.heap_alloc _ _ _ (by simp; omega)).trans ((Below.heap_alloc _ _ _ hlt1).trans HC1.out)
    · exact (Below.heap_alloc _ _ _ (by simp; omega)).trans ((Below.heap_alloc _ _ _ (by omega)).trans HR1.out)
    · exact (Below.heap_alloc _ _ _ (by simp)).trans (heap_alloc_new _ _)
    · have := heap_alloc_new (w1.alloc (.cells #[.int .i64 0, .int .i64 0, .int .i64 0, .int .i64 0, .int .i64 0, .int .i64 0, .int .i64 0] 23)) (.cells #[.bool false, .bool false, .bool false, .bool false, .bool false, .bool false, .bool false, .bool false] 62)
      rw [show (w1.alloc (.cells #[.int .i64 0, .int .i64 0, .int .i64 0, .int .i64 0, .int .i64 0, .int .i64 0, .int .i64 0] 23)).heap.size = w1.heap.size + 1 from by simp] at this
      exact this)
  clear HR1 HB1 HC1
  generalize (w1.alloc (Obj.cells #[.int .i64 0, .int .i64 0, .int .i64 0, .int .i64 0, .int .i64 0, .int .i64 0, .int .i64 0] 23)).alloc (Obj.cells #[.bool false, .bool false, .bool false, .bool false, .bool false, .bool false, .bool false, .bool false] 62) = W at *
  generalize w.heap.size + 1 = C at *
  generalize w1.heap.size = M at *
  generalize M + 1 = K at *
  refine (week_calls C 61 s (hq1 s) _ hs O1.out.1 (Nat.le_trans O1.out.2 hs) H.out.cur (curS_lt H.out.cur)).mono ?_
  rintro e w2 ⟨rfl, hc, ht⟩
  have H2 := Lib.hid (RH.turn (q' := hq2 s) H.out hc ht)
  clear hc ht H
  obtain ⟨ck, zk⟩ := H2.out.kcell 0
  replace ck : w2.cell? ⟨K, 0, none⟩ = some (.bool false) := ck
  obtain ⟨B0, eB0⟩ : ∃ x, weekP s (hq1 s) = x := ⟨_, rfl⟩
  rw [eB0]
  have EB0 := Lib.hid eB0
  clear eB0
  go_wp2_with fail
  have H := Lib.hid (H2.out.kset 0 (.bool B0) #[.bool B0, .bool false, .bool false, .bool false, .bool false, .bool false, .bool false, .bool false] rfl)
  clear H2 ck zk
  generalize w2.setCell ⟨K, 0, none⟩ (.bool B0) = W at *
  refine (short_calls C 61 s (hq2 s) 99 _ hs O2.out.1 H.out.cur).mono ?_
  rintro e w3 ⟨rfl, hc, ht⟩
  have H3 := Lib.hid (RH.turn (q' := hq3 s) H.out hc ht)
  clear hc ht H
  obtain ⟨cm, zm⟩ := H3.out.mcell 2
  obtain ⟨ck, zk⟩ := H3.out.kcell 1
  replace cm : w3.cell? ⟨M, 2, none⟩ = some (.int .i64 0) := cm
  replace ck : w3.cell? ⟨K, 1, none⟩ = some (.bool false) := ck
  obtain ⟨D, eD⟩ : ∃ x, (shortP 99 (hq2 s)).1 = x := ⟨_, rfl⟩
  obtain ⟨B1, eB1⟩ : ∃ x, (shortP 99 (hq2 s)).2 = x := ⟨_, rfl⟩
  rw [eD, eB1]
  have ED := Lib.hid eD
  have EB1 := Lib.hid eB1
  clear eD eB1
  go_wp2_with fail
  have H := Lib.hid ((H3.out.mset 2 (.int .i64 D) #[.int .i64 0, .int .i64 0, .int .i64 D, .int .i64 0, .int .i64 0, .int .i64 0, .int .i64 0] rfl).kset 1 (.bool B1) #[.bool B0, .bool B1, .bool false, .bool false, .bool false, .bool false, .bool false, .bool false] rfl)
  clear H3 cm zm ck zk
  generalize (w3.setCell ⟨M, 2, none⟩ (.int .i64 D)).setCell ⟨K, 1, none⟩ (.bool B1) = W at *
  refine (month_calls C 61 s (hq3 s) _ hs O3.out.1 (Nat.le_trans O3.out.2 hs) H.out.cur (curS_lt H.out.cur)).mono ?_
  rintro e w4 ⟨rfl, hc, ht⟩
  have H4 := Lib.hid (RH.turn (q' := hq4 s) H.out hc ht)
  clear hc ht H
  obtain ⟨cm, zm⟩ := H4.out.mcell 1
  obtain ⟨ck, zk⟩ := H4.out.kcell 2
  replace cm : w4.cell? ⟨M, 1, none⟩ = some (.int .i64 0) := cm
  replace ck : w4.cell? ⟨K, 2, none⟩ = some (.bool false) := ck
  obtain ⟨Mo, eMo⟩ : ∃ x, (monthP (hq3 s)).1 = x := ⟨_, rfl⟩
  obtain ⟨B2, eB2⟩ : ∃ x, (monthP (hq3 s)).2 = x := ⟨_, rfl⟩
  rw [eMo, eB2]
  have EMo := Lib.hid eMo
  have EB2 := Lib.hid eB2
  clear eMo eB2
  go_wp2_with fail
  have H := Lib.hid ((H4.out.mset 1 (.int .i64 Mo) #[.int .i64 0, .int .i64 Mo, .int .i64 D, .int .i64 0, .int .i64 0, .int .i64 0, .int .i64 0] rfl).kset 2 (.bool B2) #[.bool B0, .bool B1, .bool B2, .bool false, .bool false, .bool false, .bool false, .bool false] rfl)
  clear H4 cm zm ck zk
  generalize (w4.setCell ⟨M, 1, none⟩ (.int .i64 Mo)).setCell ⟨K, 2, none⟩ (.bool B2) = W at *
  refine (year_calls C 61 s (hq4 s) _ hs O4.out.1 H.out.cur).mono ?_
  rintro e w5 ⟨rfl, hc, ht⟩
  have H5 := Lib.hid (RH.turn (q' := hq5 s) H.out hc ht)
  clear hc ht H
  obtain ⟨cm, zm⟩ := H5.out.mcell 0
  obtain ⟨ck, zk⟩ := H5.out.kcell 3
  replace cm : w5.cell? ⟨M, 0, none⟩ = some (.int .i64 0) := cm
  replace ck : w5.cell? ⟨K, 3, none⟩ = some (.bool false) := ck
  obtain ⟨Y, eY⟩ : ∃ x, (yearP (hq4 s)).1 = x := ⟨_, rfl⟩
  obtain ⟨B3, eB3⟩ : ∃ x, (yearP (hq4 s)).2 = x := ⟨_, rfl⟩
  rw [eY, eB3]
  have EY := Lib.hid eY
  have EB3 := Lib.hid eB3
  clear eY eB3
  go_wp2_with fail
  have H := Lib.hid ((H5.out.mset 0 (.int .i64 Y) #[.int .i64 Y, .int .i64 Mo, .int .i64 D, .int .i64 0, .int .i64 0, .int .i64 0, .int .i64 0] rfl).kset 3 (.bool B3) #[.bool B0, .bool B1, .bool B2, .bool B3, .bool false, .bool false, .bool false, .bool false] rfl)
  clear H5 cm zm ck zk
  generalize (w5.setCell ⟨M, 0, none⟩ (.int .i64 Y)).setCell ⟨K, 3, none⟩ (.bool B3) = W at *
  refine (short_calls C 61 s (hq5 s) 23 _ hs O5.out.1 H.out.cur).mono ?_
  rintro e w6 ⟨rfl, hc, ht⟩
  have H6 := Lib.hid (RH.turn (q' := hq6 s) H.out hc ht)
  clear hc ht H
  obtain ⟨cm, zm⟩ := H6.out.mcell 3
  obtain ⟨ck, zk⟩ := H6.out.kcell 4
  replace cm : w6.cell? ⟨M, 3, none⟩ = some (.int .i64 0) := cm
  replace ck : w6.cell? ⟨K, 4, none⟩ = some (.bool false) := ck
  obtain ⟨Hh, eHh⟩ : ∃ x, (shortP 23 (hq5 s)).1 = x := ⟨_, rfl⟩
  obtain ⟨B4, eB4⟩ : ∃ x, (shortP 23 (hq5 s)).2 = x := ⟨_, rfl⟩
  rw [eHh, eB4]
  have EHh := Lib.hid eHh
  have EB4 := Lib.hid eB4
  clear eHh eB4
  go_wp2_with fail
  have H := Lib.hid ((H6.out.mset 3 (.int .i64 Hh) #[.int .i64 Y, .int .i64 Mo, .int .i64 D, .int .i64 Hh, .int .i64 0, .int .i64 0, .int .i64 0] rfl).kset 4 (.bool B4) #[.bool B0, .bool B1, .bool B2, .bool B3, .bool B4, .bool false, .bool false, .bool false] rfl)
  clear H6 cm zm ck zk
  generalize (w6.setCell ⟨M, 3, none⟩ (.int .i64 Hh)).setCell ⟨K, 4, none⟩ (.bool B4) = W at *
  refine (sign_calls C 61 s (hq6 s) 5 _ hs O6.out.1 H.out.cur).mono ?_
  rintro e w7 ⟨rfl, hc, ht⟩
  have H7 := Lib.hid (RH.turn (q' := hq7 s) H.out hc ht)
  clear hc ht H
  obtain ⟨ck, zk⟩ := H7.out.kcell 5
  replace ck : w7.cell? ⟨K, 5, none⟩ = some (.bool false) := ck
  obtain ⟨B5, eB5⟩ : ∃ x, ((hq6 s).2.1 == 5) = x := ⟨_, rfl⟩
  rw [eB5]
  have EB5 := Lib.hid eB5
  clear eB5
  go_wp2_with fail
  have H := Lib.hid (H7.out.kset 5 (.bool B5) #[.bool B0, .bool B1, .bool B2, .bool B3, .bool B4, .bool B5, .bool false, .bool false] rfl)
  clear H7 ck zk
  generalize w7.setCell ⟨K, 5, none⟩ (.bool B5) = W at *
  refine (short_calls C 61 s (hq7 s) 59 _ hs O7.out.1 H.out.cur).mono ?_
  rintro e w8 ⟨rfl, hc, ht⟩
  have H8 := Lib.hid (RH.turn (q' := hq8 s) H.out hc ht)
  clear hc ht H
  obtain ⟨cm, zm⟩ := H8.out.mcell 4
  obtain ⟨ck, zk⟩ := H8.out.kcell 6
  replace cm : w8.cell? ⟨M, 4, none⟩ = some (.int .i64 0) := cm
  replace ck : w8.cell? ⟨K, 6, none⟩ = some (.bool false) := ck
  obtain ⟨Mi, eMi⟩ : ∃ x, (shortP 59 (hq7 s)).1 = x := ⟨_, rfl⟩
  obtain ⟨B6, eB6⟩ : ∃ x, (shortP 59 (hq7 s)).2 = x := ⟨_, rfl⟩
  rw [eMi, eB6]
  have EMi := Lib.hid eMi
  have EB6 := Lib.hid eB6
  clear eMi eB6
  go_wp2_with fail
  have H := Lib.hid ((H8.out.mset 4 (.int .i64 Mi) #[.int .i64 Y, .int .i64 Mo, .int .i64 D, .int .i64 Hh, .int .i64 Mi, .int .i64 0, .int .i64 0] rfl).kset 6 (.bool B6) #[.bool B0, .bool B1, .bool B2, .bool B3, .bool B4, .bool B5, .bool B6, .bool false] rfl)
  clear H8 cm zm ck zk
  generalize (w8.setCell ⟨M, 4, none⟩ (.int .i64 Mi)).setCell ⟨K, 6, none⟩ (.bool B6) = W at *
  refine (second_calls C 61 s (hq8 s) _ hs O8.out.1 H.out.cur).mono ?_
  rintro e w9 ⟨rfl, hc, ht⟩
  have H9 := Lib.hid (RH.turn (q' := hq9 s) H.out hc ht)
  clear hc ht H
  obtain ⟨cm, zm⟩ := H9.out.mcell 5
  obtain ⟨ck, zk⟩ := H9.out.kcell 7
  replace cm : w9.cell? ⟨M, 5, none⟩ = some (.int .i64 0) := cm
  replace ck : w9.cell? ⟨K, 7, none⟩ = some (.bool false) := ck
  obtain ⟨Se, eSe⟩ : ∃ x, (secondP s (hq8 s)).1 = x := ⟨_, rfl⟩
  obtain ⟨B7, eB7⟩ : ∃ x, (secondP s (hq8 s)).2 = x := ⟨_, rfl⟩
  rw [eSe, eB7]
  have ESe := Lib.hid eSe
  have EB7 := Lib.hid eB7
  clear eSe eB7
  go_wp2_with fail
  have H := Lib.hid ((H9.out.mset 5 (.int .i64 Se) #[.int .i64 Y, .int .i64 Mo, .int .i64 D, .int .i64 Hh, .int .i64 Mi, .int .i64 Se, .int .i64 0] rfl).kset 7 (.bool B7) #[.bool B0, .bool B1, .bool B2, .bool B3, .bool B4, .bool B5, .bool B6, .bool B7] rfl)
  clear H9 cm zm ck zk
  generalize (w9.setCell ⟨M, 5, none⟩ (.int .i64 Se)).setCell ⟨K, 7, none⟩ (.bool B7) = W at *
  refine (zoneC_calls C 61 s (hq9 s) _ hs O9.out.1 (Nat.le_trans O9.out.2 hs) H.out.cur (curS_lt H.out.cur)).mono ?_
  rintro e w10 ⟨rfl, hc, ht⟩
  have H10 := Lib.hid (RH.turn (q' := hq10 s) H.out hc ht)
  clear hc ht H
  obtain ⟨cm, zm⟩ := H10.out.mcell 6
  replace cm : w10.cell? ⟨M, 6, none⟩ = some (.int .i64 0) := cm
  obtain ⟨Z, eZ⟩ : ∃ x, (zoneCP (hq9 s)).1 = x := ⟨_, rfl⟩
  obtain ⟨BZ, eBZ⟩ : ∃ x, (zoneCP (hq9 s)).2 = x := ⟨_, rfl⟩
  rw [eZ, eBZ]
  have EZ := Lib.hid eZ
  have EBZ := Lib.hid eBZ
  clear eZ eBZ
  go_upto_region 15 with fail
  have H := Lib.hid (H10.out.mset 6 (.int .i64 Z) #[.int .i64 Y, .int .i64 Mo, .int .i64 D, .int .i64 Hh, .int .i64 Mi, .int .i64 Se, .int .i64 Z] rfl)
  clear H10 cm zm
  generalize w10.setCell ⟨M, 6, none⟩ (.int .i64 Z) = W at *
  go_wp2_with (refine wpList_load_row rfl 62 (.tmp 6) rfl K rfl 62 #[.bool B0, .bool B1, .bool B2, .bool B3, .bool B4, .bool B5, .bool B6, .bool B7] (0, 0) _ H.out.oks Tryd.underlying62 rfl (by kernel_rfl) ?_)
  have hBLs : [B0, B1, B2, B3, B4, B5, B6, B7].length = 8 := rfl
  have HX := Lib.hid (fun (W' : World) (n : Nat) (hn : n < 8) => bools_index W' B0 B1 B2 B3 B4 B5 B6 B7 n hn)
  obtain ⟨BL, hBL⟩ : ∃ BL, BL = [B0, B1, B2, B3, B4, B5, B6, B7] := ⟨_, rfl⟩
  rw [← hBL] at HX hBLs
  have HBL := Lib.hid hBL
  clear hBL
  go_loopw [8, 72] (fun v8 v72 wr => ∃ n : Nat, n ≤ 8 ∧ v72 = .int .i64 n ∧ v8 = .bool (BZ && (BL.take n).all id) ∧ wr = W) (fun _ v72 _ => 8 - (intOf v72).toNat)
  case atStart => exact ⟨0, by omega, rfl, by simp, rfl⟩
  case round =>
    obtain ⟨n, hn, rfl, rfl, rfl⟩ := hrel
    by_cases hlt : n < 8
    · have hix := fun W' => HX.out W' n hlt
      have hsn : Hid ((BZ && (BL.take (n + 1)).all id) = ((BZ && (BL.take n).all id) && BL.getD n false)) := Lib.hid (by
        rw [List.take_succ_eq_append_getElem (by omega), List.all_append, List.getD_eq_getElem?_getD, List.getElem?_eq_getElem (by omega)]
        simp [Bool.and_assoc])
      generalize (BZ && (BL.take n).all id) = p at *
      generalize BL.getD n false = X at *
      clear EB0 EB1 EB2 EB3 EB4 EB5 EB6 EB7 EY EMo ED EHh EMi ESe EZ EBZ O1 O2 O3 O4 O5 O6 O7 O8 O9 HX H HBL HR HL
      cases p with
      | true =>
        go_wp2
        go_roundw
        case rel => exact ⟨n + 1, by omega, by go_num, by rw [hsn.out]; rfl, trivial⟩
        case measure => simp [intOf]; omega
      | false =>
        go_wp2
        go_roundw
        case rel => exact ⟨n + 1, by omega, by go_num, by rw [hsn.out]; rfl, trivial⟩
        case measure => simp [intOf]; omega
    · obtain rfl : n = 8 := by omega
      have hall : BL.take 8 = BL := List.take_of_length_le (by omega)
      have hk := HR.out
      have hhead : headOk s = ((BZ && BL.all id) && (hq10 s).2.1 == 0) := by
        unfold headOk headB
        rw [EBZ.out, EB0.out, EB1.out, EB2.out, EB3.out, EB4.out, EB5.out, EB6.out, EB7.out, ← HBL.out]
      rw [hhead, EY.out, EMo.out, ED.out, EHh.out, EMi.out, ESe.out, EZ.out] at hk
      rw [hall]
      have HK := Lib.hid hk
      clear hk hhead hall hBLs HX
      obtain ⟨⟨c0, c1, c2, c3, c4, c5, c6⟩, _⟩ := cells7 H.out.mom
      obtain ⟨_, _, d2, _, _, _, _⟩ := cur4 H.out.cur
      have hlaid := Lib.hid (laid_below HL.out H.out.below)
      have HBE := Lib.hid H.out.below
      have HRES := Lib.hid H.out.res
      have hRlt := Lib.hid (blk_lt H.out.res)
      generalize (BZ && BL.all id) = right at *
      generalize (hq10 s).2.1 = kd at *
      clear O1 O2 O3 O4 O5 O6 O7 O8 O9 HR HL EY EMo ED EHh EMi ESe EZ EBZ EB0 EB1 EB2 EB3 EB4 EB5 EB6 EB7 HBL H
      cases right with
      | true =>
        have hq : (true && kd == 0) = (kd == 0) := Bool.true_and _
        rw [hq] at HK
        clear hq
        go_wp2_with fail
        go_region_with (go_at_call 60; refine (moment_read.calls Y Mo D Hh Mi Se Z (kd == 0) r1 r2 r3 r4 r5 r6 r7 r8 _ HK.out (laid_below hlaid.out (by repeat (first | (with_reducible exact Below.refl _ _) | apply below_drew | apply pw_below_drewN)))).mono ?_; rintro e w12 ⟨rfl, hb⟩; obtain ⟨⟨x0, x1, x2, x3, x4, x5, x6⟩, fz⟩ := cells7 (show w12.heap[w.heap.size]? = some (.cells #[.int .i64 0, .int .i64 0, .int .i64 0, .int .i64 0, .int .i64 0, .int .i64 0, .int .i64 0] 23 (0, 0)) from (hb.block w.heap.size (by exact hRlt.out)).trans HRES.out); have y0 := fz 0; have y1 := fz 1; have y2 := fz 2; have y3 := fz 3; have y4 := fz 4; have y5 := fz 5; have y6 := fz 6; clear fz; have HB := Lib.hid hb; clear hb)
        all_goals go_wp2
        all_goals
          have hr12 := (show w12.heap[w.heap.size]? = some (.cells #[.int .i64 0, .int .i64 0, .int .i64 0, .int .i64 0, .int .i64 0, .int .i64 0, .int .i64 0] 23 (0, 0)) from (HB.out.block w.heap.size (by exact hRlt.out)).trans HRES.out)
          have hbe : Below w.heap.size w w12 := below_step (by repeat (first | (with_reducible exact HBE.out) | (with_reducible apply below_drew) | (with_reducible apply pw_below_drewN) | exact HBE.out)) HB.out
          exact bodyPost_ret (results_ct rfl _ _ w.heap.size 23 #[.int .i64 r1, .int .i64 r2, .int .i64 r3, .int .i64 r4, .int .i64 r5, .int .i64 r6, .int .i64 r7] (0, 0) _ rfl (set7 hr12 _ _ _ _ _ _ _).1 Tryd.underlying23 rfl (by kernel_rfl)) rfl ⟨rfl, (set7 hr12 _ _ _ _ _ _ _).2 _ _ hbe (Nat.le_refl _)⟩
      | false =>
        have hq : (false && kd == 0) = false := rfl
        rw [hq] at HK
        clear hq
        go_wp2_with fail
        first | (go_region_with (go_at_call 60; refine (moment_read.calls Y Mo D Hh Mi Se Z false r1 r2 r3 r4 r5 r6 r7 r8 _ HK.out (laid_below hlaid.out (by repeat (first | (with_reducible exact Below.refl _ _) | apply below_drew | apply pw_below_drewN)))).mono ?_; rintro e w12 ⟨rfl, hb⟩; obtain ⟨⟨x0, x1, x2, x3, x4, x5, x6⟩, fz⟩ := cells7 (show w12.heap[w.heap.size]? = some (.cells #[.int .i64 0, .int .i64 0, .int .i64 0, .int .i64 0, .int .i64 0, .int .i64 0, .int .i64 0] 23 (0, 0)) from (hb.block w.heap.size (by exact hRlt.out)).trans HRES.out); have y0 := fz 0; have y1 := fz 1; have y2 := fz 2; have y3 := fz 3; have y4 := fz 4; have y5 := fz 5; have y6 := fz 6; clear fz; have HB := Lib.hid hb; clear hb)) | fail
        all_goals go_wp2
        all_goals
          have hr12 := (show w12.heap[w.heap.size]? = some (.cells #[.int .i64 0, .int .i64 0, .int .i64 0, .int .i64 0, .int .i64 0, .int .i64 0, .int .i64 0] 23 (0, 0)) from (HB.out.block w.heap.size (by exact hRlt.out)).trans HRES.out)
          have hbe : Below w.heap.size w w12 := below_step (by repeat (first | (with_reducible exact HBE.out) | (with_reducible apply below_drew) | (with_reducible apply pw_below_drewN) | exact HBE.out)) HB.out
          exact bodyPost_ret (results_ct rfl _ _ w.heap.size 23 #[.int .i64 r1, .int .i64 r2, .int .i64 r3, .int .i64 r4, .int .i64 r5, .int .i64 r6, .int .i64 r7] (0, 0) _ rfl (set7 hr12 _ _ _ _ _ _ _).1 Tryd.underlying23 rfl (by kernel_rfl)) rfl ⟨rfl, (set7 hr12 _ _ _ _ _ _ _).2 _ _ hbe (Nat.le_refl _)⟩
theorem moment_ReadHeader.calls (a0 : ByteArray) (r1 r2 r3 r4 r5 r6 r7 r8 : Int) (w : World) (h : moment_ReadHeader.f a0 = some (r1, r2, r3, r4, r5, r6, r7, r8)) (hL : Laid w) :
    Calls Tryd.prog 27 #[.string a0] w fun e w' => e = .returned (.tuple #[.agg #[.int .i64 r1, .int .i64 r2, .int .i64 r3, .int .i64 r4, .int .i64 r5, .int .i64 r6, .int .i64 r7], .int .i64 r8]) ∧ Below w.heap.size w w' := by
  unfold moment_ReadHeader.f at h
  by_cases hs : a0.size ≤ 140737488351232
  · rw [if_pos hs] at h
    exact readHeader_calls a0 r1 r2 r3 r4 r5 r6 r7 r8 w hs h hL
  · rw [if_neg hs] at h
    exact absurd h (by simp)
end Go.Proofs.YtjlchnmpebdggaaDoor.Mo
end
section
namespace Go.Proofs.YtjlchnmpebdggaaDoor.Mo
open Go.RowKit Go.Proofs.YtjlchnmpebdggaaDoorW.PrintWords
def text1 : ByteArray := ⟨#[32, 49, 45, 70, 101, 98, 45, 50, 48, 50, 54, 32, 49, 48, 58, 48, 48, 58, 48, 48, 32, 43, 48, 49, 48, 48]⟩
def text2 : ByteArray := ⟨#[49, 32, 70, 101, 98, 32, 50, 48, 50, 54, 32, 49, 48, 58, 48, 48, 32, 43, 48, 49, 48, 48]⟩
theorem kn_print : moment_PrintInternal.f 2026 2 1 10 0 0 60 = some (text1, 0) := by kernel_rfl
theorem kn_read : moment_ReadInternal.f text1 = some (2026, 2, 1, 10, 0, 0, 60, 0) := by kernel_rfl
theorem kn_head : moment_ReadHeader.f text2 = some (2026, 2, 1, 10, 0, 0, 60, 0) := by kernel_rfl
theorem kn_valid : moment_Valid.f 2026 2 1 10 0 0 60 = some true := by kernel_rfl
theorem kn_week : moment_Weekday.f 20 2026 2 1 10 0 0 60 = some 0 := by kernel_rfl
theorem kn_days : moment_Days.f 20 2026 2 1 10 0 0 60 = some 20485 := by kernel_rfl
set_option maxHeartbeats 4000000 in
set_option maxRecDepth 100000 in
theorem known_calls (w : World) (hL : Laid w) : Calls Tryd.prog 15 #[] w fun e w' => e = .returned (.bool true) ∧ Below w.heap.size w w' := by
  have HL := Lib.hid hL
  clear hL
  have K1 := Lib.hid kn_print
  have K2 := Lib.hid kn_read
  have K3 := Lib.hid kn_head
  have K4 := Lib.hid kn_valid
  have K5 := Lib.hid kn_week
  have K6 := Lib.hid kn_days
  go_enter Tryd.func15, Tryd.ntmps15
  go_wp2_with fail
  have HA := Lib.hid (heap_alloc_new w (.cells #[.int .i64 2026, .int .i64 2, .int .i64 1, .int .i64 10, .int .i64 0, .int .i64 0, .int .i64 60] 23))
  have HB := Lib.hid (below_alloc (Below.refl _ w) (.cells #[.int .i64 2026, .int .i64 2, .int .i64 1, .int .i64 10, .int .i64 0, .int .i64 0, .int .i64 60] 23))
  generalize w.alloc (.cells #[.int .i64 2026, .int .i64 2, .int .i64 1, .int .i64 10, .int .i64 0, .int .i64 0, .int .i64 60] 23) = w0 at *
  refine (moment_PrintInternal.calls 2026 2 1 10 0 0 60 text1 0 _ K1.out (laid_below HL.out (by repeat (first | (with_reducible exact HB.out) | (with_reducible apply below_drew) | (with_reducible apply pw_below_drewN) | exact HB.out)))).mono ?_
  rintro e w1 ⟨rfl, hb⟩
  have n0_ := Lib.hid (below_step (by repeat (first | (with_reducible exact HB.out) | (with_reducible apply below_drew) | (with_reducible apply pw_below_drewN) | exact HB.out)) hb)
  clear HB
  have HB := n0_
  clear n0_
  have n0_ := Lib.hid ((hb.block _ (blk_lt HA.out)).trans HA.out)
  clear HA
  have HA := n0_
  clear n0_
  clear hb
  go_wp2_with fail
  refine (moment_ReadInternal.calls text1 2026 2 1 10 0 0 60 0 _ K2.out (laid_below HL.out (by repeat (first | (with_reducible exact HB.out) | (with_reducible apply below_drew) | (with_reducible apply pw_below_drewN) | exact HB.out)))).mono ?_
  rintro e w2 ⟨rfl, hb⟩
  have n0_ := Lib.hid (below_step (by repeat (first | (with_reducible exact HB.out) | (with_reducible apply below_drew) | (with_reducible apply pw_below_drewN) | exact HB.out)) hb)
  clear HB
  have HB := n0_
  clear n0_
  have n0_ := Lib.hid ((hb.block _ (blk_lt HA.out)).trans HA.out)
  clear HA
  have HA := n0_
  clear n0_
  clear hb
  go_wp2_with fail
  have n1_ := Lib.hid (heap_alloc_new w2 (.cells #[.int .i64 2026, .int .i64 2, .int .i64 1, .int .i64 10, .int .i64 0, .int .i64 0, .int .i64 60] 23))
  have n0_ := Lib.hid ((Below.heap_alloc w2 (.cells #[.int .i64 2026, .int .i64 2, .int .i64 1, .int .i64 10, .int .i64 0, .int .i64 0, .int .i64 60] 23) _ (blk_lt HA.out)).trans HA.out)
  clear HA
  have HA := n0_
  clear n0_
  have HX := n1_
  clear n1_
  have n0_ := Lib.hid (below_alloc HB.out (.cells #[.int .i64 2026, .int .i64 2, .int .i64 1, .int .i64 10, .int .i64 0, .int .i64 0, .int .i64 60] 23))
  clear HB
  have HB := n0_
  clear n0_
  generalize w2.alloc (.cells #[.int .i64 2026, .int .i64 2, .int .i64 1, .int .i64 10, .int .i64 0, .int .i64 0, .int .i64 60] 23) = w3 at *
  refine (moment_ReadHeader.calls text2 2026 2 1 10 0 0 60 0 _ K3.out (laid_below HL.out (by repeat (first | (with_reducible exact HB.out) | (with_reducible apply below_drew) | (with_reducible apply pw_below_drewN) | exact HB.out)))).mono ?_
  rintro e w4 ⟨rfl, hb⟩
  have n0_ := Lib.hid (below_step (by repeat (first | (with_reducible exact HB.out) | (with_reducible apply below_drew) | (with_reducible apply pw_below_drewN) | exact HB.out)) hb)
  clear HB
  have HB := n0_
  clear n0_
  have n0_ := Lib.hid ((hb.block _ (blk_lt HA.out)).trans HA.out)
  clear HA
  have HA := n0_
  clear n0_
  have n0_ := Lib.hid ((hb.block _ (blk_lt HX.out)).trans HX.out)
  clear HX
  have HX := n0_
  clear n0_
  clear hb
  go_upto_region 5 with fail
  have n1_ := Lib.hid (heap_alloc_new w4 (.cells #[.int .i64 2026, .int .i64 2, .int .i64 1, .int .i64 10, .int .i64 0, .int .i64 0, .int .i64 60] 23))
  have n0_ := Lib.hid ((Below.heap_alloc w4 (.cells #[.int .i64 2026, .int .i64 2, .int .i64 1, .int .i64 10, .int .i64 0, .int .i64 0, .int .i64 60] 23) _ (blk_lt HA.out)).trans HA.out)
  clear HA
  have HA := n0_
  clear n0_
  have n0_ := Lib.hid ((Below.heap_alloc w4 (.cells #[.int .i64 2026, .int .i64 2, .int .i64 1, .int .i64 10, .int .i64 0, .int .i64 0, .int .i64 60] 23) _ (blk_lt HX.out)).trans HX.out)
  clear HX
  have HX := n0_
  clear n0_
  have HH := n1_
  clear n1_
  have n0_ := Lib.hid (below_alloc HB.out (.cells #[.int .i64 2026, .int .i64 2, .int .i64 1, .int .i64 10, .int .i64 0, .int .i64 0, .int .i64 60] 23))
  clear HB
  have HB := n0_
  clear n0_
  generalize w4.alloc (.cells #[.int .i64 2026, .int .i64 2, .int .i64 1, .int .i64 10, .int .i64 0, .int .i64 0, .int .i64 60] 23) = w5 at *
  obtain ⟨⟨a0, a1, a2, a3, a4, a5, a6⟩, _⟩ := cells7 HA.out
  obtain ⟨⟨x0, x1, x2, x3, x4, x5, x6⟩, _⟩ := cells7 HX.out
  obtain ⟨⟨y0, y1, y2, y3, y4, y5, y6⟩, _⟩ := cells7 HH.out
  go_wp2_with fail
  clear a0 a1 a2 a3 a4 a5 a6
  clear x0 x1 x2 x3 x4 x5 x6
  clear y0 y1 y2 y3 y4 y5 y6
  refine (moment_Valid.calls 2026 2 1 10 0 0 60 true _ K4.out (laid_below HL.out (by repeat (first | (with_reducible exact HB.out) | (with_reducible apply below_drew) | (with_reducible apply pw_below_drewN) | exact HB.out)))).mono ?_
  rintro e w6 ⟨rfl, hb⟩
  have n0_ := Lib.hid (below_step (by repeat (first | (with_reducible exact HB.out) | (with_reducible apply below_drew) | (with_reducible apply pw_below_drewN) | exact HB.out)) hb)
  clear HB
  have HB := n0_
  clear n0_
  have n0_ := Lib.hid ((hb.block _ (blk_lt HA.out)).trans HA.out)
  clear HA
  have HA := n0_
  clear n0_
  clear hb
  obtain ⟨⟨a0, a1, a2, a3, a4, a5, a6⟩, _⟩ := cells7 HA.out
  go_wp2_with fail
  clear a0 a1 a2 a3 a4 a5 a6
  refine (moment_Weekday.calls 20 2026 2 1 10 0 0 60 0 _ K5.out (laid_below HL.out (by repeat (first | (with_reducible exact HB.out) | (with_reducible apply below_drew) | (with_reducible apply pw_below_drewN) | exact HB.out)))).mono ?_
  rintro e w7 ⟨rfl, hb⟩
  have n0_ := Lib.hid (below_step (by repeat (first | (with_reducible exact HB.out) | (with_reducible apply below_drew) | (with_reducible apply pw_below_drewN) | exact HB.out)) hb)
  clear HB
  have HB := n0_
  clear n0_
  have n0_ := Lib.hid ((hb.block _ (blk_lt HA.out)).trans HA.out)
  clear HA
  have HA := n0_
  clear n0_
  clear hb
  obtain ⟨⟨a0, a1, a2, a3, a4, a5, a6⟩, _⟩ := cells7 HA.out
  go_wp2_with fail
  clear a0 a1 a2 a3 a4 a5 a6
  refine (moment_Days.calls 20 2026 2 1 10 0 0 60 20485 _ K6.out (laid_below HL.out (by repeat (first | (with_reducible exact HB.out) | (with_reducible apply below_drew) | (with_reducible apply pw_below_drewN) | exact HB.out)))).mono ?_
  rintro e w8 ⟨rfl, hb⟩
  have n0_ := Lib.hid (below_step (by repeat (first | (with_reducible exact HB.out) | (with_reducible apply below_drew) | (with_reducible apply pw_below_drewN) | exact HB.out)) hb)
  clear HB
  have HB := n0_
  clear n0_
  have n0_ := Lib.hid ((hb.block _ (blk_lt HA.out)).trans HA.out)
  clear HA
  have HA := n0_
  clear n0_
  clear hb
  go_wp2
  go_ret
  exact ⟨rfl, HB.out⟩
end Go.Proofs.YtjlchnmpebdggaaDoor.Mo
end
section
namespace Go.Proofs.YtjlchnmpebdggaaDoor.Mo
open Go.RowKit Go.Proofs.YtjlchnmpebdggaaDoorW.PrintWords Go.Proofs.YtjlchnmpebdggaaDoorW.PrintLast Go.Proofs.YtjlchnmpebdggaaDoorW.PrintMore
attribute [local go_sem] max2_int min2_int max_two min_two max_three min_three max_four min_four   -- for this text's walks alone
set_option linter.unusedVariables false
set_option linter.unusedSimpArgs false
end Go.Proofs.YtjlchnmpebdggaaDoor.Mo
end
section
namespace Go.Proofs.YtjlchnmpebdggaaDoor.Mo
open Go.RowKit Go.Proofs.YtjlchnmpebdggaaDoorW.PrintWords
theorem eqA23 (d : Nat) (w : World) (x0 y0 : Int) (x1 y1 : Int) (x2 y2 : Int) (x3 y3 : Int) (x4 y4 : Int) (x5 y5 : Int) (x6 y6 : Int) :
    (Op.equalIn (d + 2) 23 (.agg #[.int .i64 x0, .int .i64 x1, .int .i64 x2, .int .i64 x3, .int .i64 x4, .int .i64 x5, .int .i64 x6]) (.agg #[.int .i64 y0, .int .i64 y1, .int .i64 y2, .int .i64 y3, .int .i64 y4, .int .i64 y5, .int .i64 y6])).run Tryd.prog w = .ok (x0 == y0 && (x1 == y1 && (x2 == y2 && (x3 == y3 && (x4 == y4 && (x5 == y5 && (x6 == y6))))))) w := by
  refine eqA_of Tryd.underlying23 (by kernel_rfl) ?_
  refine eqf_cons (by rfl) (by go_simp; rfl) (by go_simp; rfl) (by go_simp) ?_
  refine eqf_cons (by rfl) (by go_simp; rfl) (by go_simp; rfl) (by go_simp) ?_
  refine eqf_cons (by rfl) (by go_simp; rfl) (by go_simp; rfl) (by go_simp) ?_
  refine eqf_cons (by rfl) (by go_simp; rfl) (by go_simp; rfl) (by go_simp) ?_
  refine eqf_cons (by rfl) (by go_simp; rfl) (by go_simp; rfl) (by go_simp) ?_
  refine eqf_cons (by rfl) (by go_simp; rfl) (by go_simp; rfl) (by go_simp) ?_
  exact eqf_last (by rfl) (by go_simp; rfl) (by go_simp; rfl) (by go_simp)
end Go.Proofs.YtjlchnmpebdggaaDoor.Mo
end
section
-- PRINTED by a driver of print.py
namespace Go.Proofs.YtjlchnmpebdggaaDoor.Mo
open Go.RowKit Go.Proofs.YtjlchnmpebdggaaDoorW.PrintWords Go.Proofs.YtjlchnmpebdggaaDoorW.PrintLast Go.Proofs.YtjlchnmpebdggaaDoorW.PrintMore
attribute [local go_sem] max2_int min2_int max_two min_two max_three min_three max_four min_four   -- for this text's walks alone
set_option linter.unusedVariables false
set_option linter.unusedSimpArgs false
end Go.Proofs.YtjlchnmpebdggaaDoor.Mo
end
section
-- PRINTED by a driver of print.py
namespace Go.Proofs.YtjlchnmpebdggaaDoor.Mo
open Go.RowKit Go.Proofs.YtjlchnmpebdggaaDoorW.PrintWords Go.Proofs.YtjlchnmpebdggaaDoorW.PrintLast Go.Proofs.YtjlchnmpebdggaaDoorW.PrintMore
attribute [local go_sem] max2_int min2_int max_two min_two max_three min_three max_four min_four   -- for this text's walks alone
set_option linter.unusedVariables false
set_option linter.unusedSimpArgs false
end Go.Proofs.YtjlchnmpebdggaaDoor.Mo
end
section
-- PRINTED by a driver of print.py
namespace Go.Proofs.YtjlchnmpebdggaaDoor.Mo
open Go.RowKit Go.Proofs.YtjlchnmpebdggaaDoorW.PrintWords Go.Proofs.YtjlchnmpebdggaaDoorW.PrintLast Go.Proofs.YtjlchnmpebdggaaDoorW.PrintMore
attribute [local go_sem] max2_int min2_int max_two min_two max_three min_three max_four min_four   -- for this text's walks alone
set_option linter.unusedVariables false
set_option linter.unusedSimpArgs false
attribute [local go_sem high] eqA23
end Go.Proofs.YtjlchnmpebdggaaDoor.Mo
end
section
-- PRINTED by a driver of print.py
namespace Go.Proofs.YtjlchnmpebdggaaDoor.Mo
open Go.RowKit Go.Proofs.YtjlchnmpebdggaaDoorW.PrintWords Go.Proofs.YtjlchnmpebdggaaDoorW.PrintLast Go.Proofs.YtjlchnmpebdggaaDoorW.PrintMore
attribute [local go_sem] max2_int min2_int max_two min_two max_three min_three max_four min_four   -- for this text's walks alone
set_option linter.unusedVariables false
set_option linter.unusedSimpArgs false
attribute [local go_sem high] eqA23
end Go.Proofs.YtjlchnmpebdggaaDoor.Mo
end
section
namespace Go.Proofs.YtjlchnmpebdggaaDoor.Mo
open Go.RowKit Go.Proofs.YtjlchnmpebdggaaDoorW.PrintWords
theorem plain_ten (d : Int) (h1 : 1 ≤ d) (h2 : d ≤ 99) : (plainP d).size = if d < 10 then 1 else 2 := by
  have hb : bt (twoP d) 0 = 48 + d / 10 := by
    rw [twoP_dig d (by omega) h2]
    unfold digP
    rw [str_app]
    have h9 : d / 10 = 0 ∨ d / 10 = 1 ∨ d / 10 = 2 ∨ d / 10 = 3 ∨ d / 10 = 4 ∨ d / 10 = 5 ∨ d / 10 = 6 ∨ d / 10 = 7 ∨ d / 10 = 8 ∨ d / 10 = 9 := by omega
    rcases h9 with h | h | h | h | h | h | h | h | h | h <;> rw [h] <;> rfl
  have h2s := twoP_size d
  unfold plainP
  rw [hb]
  by_cases hd : d < 10
  · rw [if_pos (by omega), if_pos hd, ByteArray.size_extract, h2s]; rfl
  · rw [if_neg (by omega), if_neg hd, h2s]
end Go.Proofs.YtjlchnmpebdggaaDoor.Mo
end
section
namespace Go.Proofs.YtjlchnmpebdggaaDoor.Mo
open Go.RowKit Go.Proofs.YtjlchnmpebdggaaDoorW.PrintWords
def dgB (x : Int) : UInt8 := UInt8.ofNat (48 + x).toNat
theorem dgB_nat (x : Int) (h0 : 0 ≤ x) (h1 : x ≤ 9) : ((dgB x).toNat : Int) = 48 + x := by
  unfold dgB
  rw [UInt8.toNat_ofNat']
  omega
theorem dgB_dig (x : Int) (h0 : 0 ≤ x) (h1 : x ≤ 9) : isDig (dgB x) = true := (isDig_iff _).2 (by have := dgB_nat x h0 h1; omega)
theorem dstep_dgB (n x : Int) (h0 : 0 ≤ x) (h1 : x ≤ 9) : dstep n (dgB x) = 10 * n + x := by unfold dstep; rw [dgB_nat x h0 h1]; omega
theorem app_list (a b : ByteArray) : (a ++ b).data.toList = a.data.toList ++ b.data.toList := by rw [ByteArray.data_append, Array.toList_append]
theorem two_list (n : Int) (h0 : 0 ≤ n) (h1 : n ≤ 99) : (twoP n).data.toList = [dgB (n / 10), dgB (n % 10)] := by rw [twoP_dig n h0 h1, app_list]; rfl
theorem four_list (n : Int) (h0 : 0 ≤ n) (h1 : n ≤ 9999) : (fourP n).data.toList = [dgB (n / 100 / 10), dgB (n / 100 % 10), dgB (n % 100 / 10), dgB (n % 100 % 10)] := by
  unfold fourP
  rw [Int.tdiv_eq_ediv_of_nonneg h0, Int.tmod_eq_emod_of_nonneg h0, w64 (n / 100) (by omega) (by omega), app_list, two_list _ (by omega) (by omega), two_list _ (by omega) (by omega)]
  rfl
theorem plain_list (d : Int) (h1 : 1 ≤ d) (h2 : d ≤ 99) : (plainP d).data.toList = if d < 10 then [dgB (d % 10)] else [dgB (d / 10), dgB (d % 10)] := by
  have hb : bt (twoP d) 0 = 48 + d / 10 := by
    have := bt_get (twoP d) 0 (by rw [two_list d (by omega) h2]; simp)
    rw [show ((0 : Nat) : Int) = 0 from rfl] at this
    rw [this]
    simp only [two_list d (by omega) h2]
    exact dgB_nat _ (by omega) (by omega)
  unfold plainP
  rw [hb]
  by_cases hd : d < 10
  · rw [if_pos (by omega), if_pos hd, ByteArray.data_extract, Array.toList_extract, List.extract_eq_take_drop, two_list d (by omega) h2]
    rfl
  · rw [if_neg (by omega), if_neg hd, two_list d (by omega) h2]
theorem digits_of (t : ByteArray) (l : List Int) (hl : t.data.toList = l.map dgB) (hr : ∀ x ∈ l, 0 ≤ x ∧ x ≤ 9) (h1 : 1 ≤ l.length) (h4 : l.length ≤ 4) : digitsP t = (l.foldl (fun n x => 10 * n + x) 0, true) := by
  have hs := toList_len t
  rw [hl, List.length_map] at hs
  have ha : t.data.toList.all isDig = true := by
    rw [hl, List.all_map, List.all_eq_true]
    intro x hx
    exact dgB_dig x (hr x hx).1 (hr x hx).2
  have hv : ∀ (l : List Int) (n : Int), (∀ x ∈ l, 0 ≤ x ∧ x ≤ 9) → (l.map dgB).foldl dstep n = l.foldl (fun n x => 10 * n + x) n := by
    intro l
    induction l with
    | nil => intro n _; rfl
    | cons x r ih =>
      intro n hx
      have hx0 := hx x (List.mem_cons_self ..)
      rw [List.map_cons, List.foldl_cons, List.foldl_cons, dstep_dgB n x hx0.1 hx0.2]
      exact ih _ (fun y hy => hx y (List.mem_cons_of_mem _ hy))
  unfold digitsP dval
  rw [if_pos ⟨by omega, by omega, ha⟩, hl, hv l 0 hr]
theorem digits_two (n : Int) (h0 : 0 ≤ n) (h1 : n ≤ 99) : digitsP (twoP n) = (n, true) := by
  rw [digits_of (twoP n) [n / 10, n % 10] (two_list n h0 h1) (by intro x hx; simp at hx; omega) (by simp) (by simp)]
  simp only [List.foldl_cons, List.foldl_nil, Prod.mk.injEq, and_true]
  omega
theorem digits_four (n : Int) (h0 : 0 ≤ n) (h1 : n ≤ 9999) : digitsP (fourP n) = (n, true) := by
  rw [digits_of (fourP n) [n / 100 / 10, n / 100 % 10, n % 100 / 10, n % 100 % 10] (four_list n h0 h1) (by intro x hx; simp at hx; omega) (by simp) (by simp)]
  simp only [List.foldl_cons, List.foldl_nil, Prod.mk.injEq, and_true]
  omega
theorem digits_plain (d : Int) (h1 : 1 ≤ d) (h2 : d ≤ 99) : digitsP (plainP d) = (d, true) := by
  have hp := plain_list d h1 h2
  by_cases hd : d < 10
  · rw [if_pos hd] at hp
    rw [digits_of (plainP d) [d % 10] hp (by intro x hx; simp at hx; omega) (by simp) (by simp)]
    simp only [List.foldl_cons, List.foldl_nil, Prod.mk.injEq, and_true]
    omega
  · rw [if_neg hd] at hp
    rw [digits_of (plainP d) [d / 10, d % 10] hp (by intro x hx; simp at hx; omega) (by simp) (by simp)]
    simp only [List.foldl_cons, List.foldl_nil, Prod.mk.injEq, and_true]
    omega
theorem ext_of {s t : ByteArray} {l : List UInt8} (h : s.data.toList = l) (a b : Nat) (ht : t.data.toList = (l.drop a).take (b - a)) : s.extract a b = t := by
  apply ByteArray.ext
  apply Array.toList_inj.1
  rw [ByteArray.data_extract, Array.toList_extract, List.extract_eq_take_drop, h, ht]
theorem bt_of {s : ByteArray} {l : List UInt8} (h : s.data.toList = l) (i : Nat) (c : UInt8) (hc : l[i]? = some c) : bt s (i : Int) = (c.toNat : Int) := by
  have hlt : i < s.data.toList.length := by rw [h]; exact (List.getElem?_eq_some_iff.1 hc).1
  rw [bt_get s i hlt]
  obtain ⟨hh, he⟩ := List.getElem?_eq_some_iff.1 hc
  simp only [h, he]
theorem size_of {s : ByteArray} {l : List UInt8} (h : s.data.toList = l) : s.size = l.length := by rw [← toList_len, h]
theorem month_facts (n : Nat) (h : n < 12) : ∃ a b c : UInt8, (monthL.getD n ⟨#[]⟩).data.toList = [a, b, c] ∧ ([a, b, c].all isLet = true) ∧ placeP (monthL.getD n ⟨#[]⟩) monthL 0 = n := by
  have : n = 0 ∨ n = 1 ∨ n = 2 ∨ n = 3 ∨ n = 4 ∨ n = 5 ∨ n = 6 ∨ n = 7 ∨ n = 8 ∨ n = 9 ∨ n = 10 ∨ n = 11 := by omega
  rcases this with rfl | rfl | rfl | rfl | rfl | rfl | rfl | rfl | rfl | rfl | rfl | rfl <;> exact ⟨_, _, _, rfl, by decide, by simp only [placeP, monthL, ByteArray.toList_eq]; decide⟩
theorem week_facts (n : Nat) (h : n < 7) : ∃ a b c : UInt8, (weekL.getD n ⟨#[]⟩).data.toList = [a, b, c] ∧ ([a, b, c].all isLet = true) ∧ placeP (weekL.getD n ⟨#[]⟩) weekL 0 = n := by
  have : n = 0 ∨ n = 1 ∨ n = 2 ∨ n = 3 ∨ n = 4 ∨ n = 5 ∨ n = 6 := by omega
  rcases this with rfl | rfl | rfl | rfl | rfl | rfl | rfl <;> exact ⟨_, _, _, rfl, by decide, by simp only [placeP, weekL, ByteArray.toList_eq]; decide⟩
theorem dash_back (d y m : Int) (y1 : 1 ≤ y) (y2 : y ≤ 9999) (m1 : 1 ≤ m) (m2 : m ≤ 12) : dayP d (dashP y m) = (y, m, d, true) := by
  obtain ⟨a, b, c, hl, _, hp⟩ := month_facts (m - 1).toNat (by omega)
  have hf := four_list y (by omega) y2
  have hD : (dashP y m).data.toList = [45, a, b, c, 45, dgB (y / 100 / 10), dgB (y / 100 % 10), dgB (y % 100 / 10), dgB (y % 100 % 10)] := by
    unfold dashP
    rw [app_list, app_list, app_list, hl, hf]
    rfl
  have e1 : (dashP y m).extract 5 9 = fourP y := ext_of hD 5 9 (by rw [hf]; rfl)
  have e2 : (dashP y m).extract 1 4 = monthL.getD (m - 1).toNat ⟨#[]⟩ := ext_of hD 1 4 (by rw [hl]; rfl)
  unfold dayP
  rw [if_pos ⟨size_of hD, bt_of hD 0 45 rfl, bt_of hD 4 45 rfl⟩, e1, e2, digits_four y (by omega) y2, hp]
  have e3 : (((m - 1).toNat : Nat) : Int) + 1 = m := by omega
  rw [e3, decide_eq_true (by omega)]
  rfl
theorem day_back (y m d : Int) (hd : isDayB y m d = true) : readDayP (plainP d ++ dashP y m) = (y, m, d, 0, 0, 0, 0, 0) := by
  obtain ⟨a1, a2, a3, a4, a5, a6⟩ := (isDay_iff _ _ _).1 hd
  have hl := length_range y m a3 a4
  have hp := plainP_size d
  have hs := dashP_size y m a3 a4
  have hz : (plainP d ++ dashP y m).size = (plainP d).size + 9 := by rw [ByteArray.size_append, hs]
  have e1 : (plainP d ++ dashP y m).extract 0 ((plainP d ++ dashP y m).size - 9) = plainP d := by
    refine ext_of (app_list _ _) 0 _ ?_
    rw [List.drop_zero, Nat.sub_zero, hz, Nat.add_sub_cancel, ← toList_len (plainP d), List.take_left]
  have e2 : (plainP d ++ dashP y m).extract ((plainP d ++ dashP y m).size - 9) (plainP d ++ dashP y m).size = dashP y m := by
    refine ext_of (app_list _ _) _ _ ?_
    rw [hz, Nat.add_sub_cancel, ← toList_len (plainP d), List.drop_left, toList_len (plainP d), Nat.add_sub_cancel_left, List.take_of_length_le (by rw [toList_len, hs]; exact Nat.le_refl _)]
  unfold readDayP
  rw [if_pos (by omega), e1, e2, digits_plain d a5 (by omega), dash_back d y m a1 a2 a3 a4]
  unfold toldP
  simp only
  rw [if_pos (by rfl), if_pos hd]
theorem below_two (n most : Int) (h0 : 0 ≤ n) (h1 : n ≤ most) (h2 : most ≤ 99) : belowP (twoP n) most = (n, true) := by
  unfold belowP
  rw [digits_two n h0 (by omega), twoP_size]
  simp only
  rw [decide_eq_true h1]
  rfl
def signB (z : Int) : ByteArray := if z < 0 then ⟨#[45]⟩ else ⟨#[43]⟩
def absZ (z : Int) : Int := if z < 0 then -z else z
theorem clock_open (h mi s z : Int) : clockP h mi s z = clockT h mi s (absZ z) (signB z) := by
  unfold clockP absZ signB
  split <;> rfl
theorem zone_back (z : Int) (h0 : -1439 ≤ z) (h1 : z ≤ 1439) : zoneT (signB z ++ twoP (absZ z / 60) ++ twoP (absZ z % 60)) = (z, true) := by
  have r0 : 0 ≤ absZ z ∧ absZ z ≤ 1439 := by unfold absZ; split <;> omega
  have l1 := two_list (absZ z / 60) (by omega) (by omega)
  have l2 := two_list (absZ z % 60) (by omega) (by omega)
  have hs : (signB z).data.toList = [if z < 0 then 45 else 43] := by unfold signB; split <;> rfl
  have hL : (signB z ++ twoP (absZ z / 60) ++ twoP (absZ z % 60)).data.toList = [if z < 0 then 45 else 43, dgB (absZ z / 60 / 10), dgB (absZ z / 60 % 10), dgB (absZ z % 60 / 10), dgB (absZ z % 60 % 10)] := by
    rw [app_list, app_list, l1, l2, hs]; rfl
  have e1 := ext_of (t := twoP (absZ z / 60)) hL 1 3 (by rw [l1]; rfl)
  have e2 := ext_of (t := twoP (absZ z % 60)) hL 3 5 (by rw [l2]; rfl)
  have hb := bt_of hL 0 _ rfl
  rw [show ((0 : Nat) : Int) = 0 from rfl] at hb
  unfold zoneT
  rw [e1, e2, below_two _ 23 (by omega) (by omega) (by omega), below_two _ 59 (by omega) (by omega) (by omega), hb]
  have hsz := size_of hL
  by_cases hz : z < 0
  · rw [if_pos hz, if_pos ⟨hsz, .inr rfl⟩, if_pos (show (((45 : UInt8).toNat : Nat) : Int) = 45 from rfl)]
    unfold absZ
    rw [if_pos hz]
    simp only [Prod.mk.injEq]
    exact ⟨by omega, rfl⟩
  · rw [if_neg hz, if_pos ⟨hsz, .inl rfl⟩, if_neg (by decide)]
    unfold absZ
    rw [if_neg hz]
    simp only [Prod.mk.injEq]
    exact ⟨by omega, rfl⟩
theorem internal_back (y m d h mi s z : Int) (hv : validB y m d h mi s z = true) : moment_ReadInternal.f (internalT y m d h mi s z) = some (y, m, d, h, mi, s, z, 0) ∧ (internalT y m d h mi s z).size = 26 := by
  obtain ⟨hd, ht⟩ := (valid_iff _ _ _ _ _ _ _).1 hv
  obtain ⟨a1, a2, a3, a4, a5, a6⟩ := (isDay_iff _ _ _).1 hd
  obtain ⟨b1, b2, b3, b4, b5, b6, b7, b8⟩ := (time_iff _ _ _ _).1 ht
  have hlr := length_range y m a3 a4
  obtain ⟨a, b, c, hl, _, hp⟩ := month_facts (m - 1).toNat (by omega)
  have hf := four_list y (by omega) a2
  have r0 : 0 ≤ absZ z ∧ absZ z ≤ 1439 := by unfold absZ; split <;> omega
  have l1 := two_list (absZ z / 60) (by omega) (by omega)
  have l2 := two_list (absZ z % 60) (by omega) (by omega)
  have l3 := two_list h b1 (by omega)
  have l4 := two_list mi b3 (by omega)
  have l5 := two_list s b5 (by omega)
  have hsg : (signB z).data.toList = [if z < 0 then 45 else 43] := by unfold signB; split <;> rfl
  have hpl := plain_list d a5 (by omega)
  have hpt := plain_ten d a5 (by omega)
  obtain ⟨p1, p2, hpad, hp1⟩ : ∃ p1 p2 : UInt8, (padP d).data.toList = [p1, p2] ∧ (if d < 10 then p1 = 32 ∧ (plainP d).data.toList = [p2] else p1.toNat ≠ 32 ∧ (plainP d).data.toList = [p1, p2]) := by
    unfold padP
    by_cases hd10 : d < 10
    · rw [if_pos hd10] at hpl hpt
      rw [if_pos hpt, app_list, hpl]
      exact ⟨32, _, rfl, by rw [if_pos hd10]; exact ⟨rfl, rfl⟩⟩
    · rw [if_neg hd10] at hpl hpt
      rw [if_neg (by omega), hpl]
      have := dgB_nat (d / 10) (by omega) (by omega)
      exact ⟨_, _, rfl, by rw [if_neg hd10]; exact ⟨by omega, rfl⟩⟩
  have hS : (internalT y m d h mi s z).data.toList = [p1, p2, 45, a, b, c, 45, dgB (y / 100 / 10), dgB (y / 100 % 10), dgB (y % 100 / 10), dgB (y % 100 % 10), 32, dgB (h / 10), dgB (h % 10), 58, dgB (mi / 10), dgB (mi % 10), 58, dgB (s / 10), dgB (s % 10), 32, if z < 0 then 45 else 43, dgB (absZ z / 60 / 10), dgB (absZ z / 60 % 10), dgB (absZ z % 60 / 10), dgB (absZ z % 60 % 10)] := by
    unfold internalT
    rw [clock_open]
    unfold clockT dashP
    simp only [app_list, hpad, hl, hf, l1, l2, l3, l4, l5, hsg]
    rfl
  have hsz := size_of hS
  have hform : formI (internalT y m d h mi s z) := ⟨hsz, bt_of hS 11 32 rfl, bt_of hS 14 58 rfl, bt_of hS 17 58 rfl, bt_of hS 20 32 rfl⟩
  have hdash : (dashP y m).data.toList = [45, a, b, c, 45, dgB (y / 100 / 10), dgB (y / 100 % 10), dgB (y % 100 / 10), dgB (y % 100 % 10)] := by
    unfold dashP
    rw [app_list, app_list, app_list, hl, hf]
    rfl
  have hz5 : (signB z ++ twoP (absZ z / 60) ++ twoP (absZ z % 60)).data.toList = [if z < 0 then 45 else 43, dgB (absZ z / 60 / 10), dgB (absZ z / 60 % 10), dgB (absZ z % 60 / 10), dgB (absZ z % 60 % 10)] := by
    rw [app_list, app_list, l1, l2, hsg]; rfl
  have e2 := ext_of (t := dashP y m) hS 2 11 (by rw [hdash]; rfl)
  have e3 := ext_of (t := twoP h) hS 12 14 (by rw [l3]; rfl)
  have e4 := ext_of (t := twoP mi) hS 15 17 (by rw [l4]; rfl)
  have e5 := ext_of (t := twoP s) hS 18 20 (by rw [l5]; rfl)
  have e6 := ext_of (t := signB z ++ twoP (absZ z / 60) ++ twoP (absZ z % 60)) hS 21 26 (by rw [hz5]; rfl)
  have hb0 := bt_of hS 0 p1 rfl
  rw [show ((0 : Nat) : Int) = 0 from rfl] at hb0
  have eD : dayT (internalT y m d h mi s z) = plainP d := by
    rw [refD_dayT _ hsz]
    unfold refD
    rw [hb0]
    by_cases hd10 : d < 10
    · rw [if_pos hd10] at hp1
      rw [if_pos (by rw [hp1.1]; rfl)]
      exact ext_of hS 1 2 (by rw [hp1.2]; rfl)
    · rw [if_neg hd10] at hp1
      rw [if_neg (by omega)]
      exact ext_of hS 0 2 (by rw [hp1.2]; rfl)
  refine ⟨?_, hsz⟩
  unfold moment_ReadInternal.f
  rw [if_pos hform, read_f]
  unfold riOk riY riH riM riS riZ riD
  rw [eD, e2, e3, e4, e5, e6, digits_plain d a5 (by omega), dash_back d y m a1 a2 a3 a4, below_two h 23 b1 b2 (by omega), below_two mi 59 b3 b4 (by omega), below_two s 59 b5 b6 (by omega), zone_back z b7 b8]
  unfold toldP
  simp only
  rw [if_pos (by rfl), if_pos hd]
end Go.Proofs.YtjlchnmpebdggaaDoor.Mo
end
section
namespace Go.Proofs.YtjlchnmpebdggaaDoor.Mo
open Go.RowKit Go.Proofs.YtjlchnmpebdggaaDoorW.PrintWords
set_option maxRecDepth 100000 in
theorem mom_l0 (y m d h mi s z : Int) : ∀ (n k j : Nat) (x4 : Int), 1 ≤ j → m = j + n → m ≤ 12 → n + 1 < k → -10000000 ≤ x4 → x4 ≤ 10000000 - 31 * n →
    moment_Days.l0 k x4 j y m d h mi s z = some (x4 + (cumN y (j - 1 + n) - cumN y (j - 1)) - 719162) := by
  intro n
  induction n with
  | zero =>
    intro k j x4 _ hm _ hk h0 h1
    obtain ⟨k, rfl⟩ : ∃ q, k = q + 1 := ⟨k - 1, by omega⟩
    simp only [moment_Days.l0]
    rw [if_neg (by omega), w64 _ (by omega) (by omega)]
    congr 1
    simp
  | succ n ih =>
    intro k j x4 hj hm hm12 hk h0 h1
    obtain ⟨k, rfl⟩ : ∃ q, k = q + 1 := ⟨k - 1, by omega⟩
    have hl := length_range y (j : Int) (by omega) (by omega)
    have hlf : moment_length.f y (j : Int) = some (lengthP y (j : Int)) := if_pos ⟨by omega, by omega⟩
    simp only [moment_Days.l0]
    rw [if_pos (by omega), hlf]
    simp only [Option.bind_some]
    have hc := cum_step y j hj
    rw [w64 _ (by omega) (by omega), w64 _ (by omega) (by omega), show (j : Int) + 1 = ((j + 1 : Nat) : Int) from by omega, ih k (j + 1) (x4 + lengthP y (j : Int)) (by omega) (by omega) hm12 (by omega) (by omega) (by omega)]
    congr 1
    rw [show j + 1 - 1 = j from by omega, show j - 1 + (n + 1) = j + n from by omega]
    omega
theorem dby_open (y : Int) (h1 : 1 ≤ y) (h2 : y ≤ 9999) (d : Int) (d1 : 1 ≤ d) (d2 : d ≤ 31) :
    wrap64 ((wrap64 ((wrap64 ((wrap64 ((wrap64 ((wrap64 (365 * (wrap64 (y - 1)))) + (wrap64 (Int.tdiv (wrap64 (y - 1)) 4)))) - (wrap64 (Int.tdiv (wrap64 (y - 1)) 100)))) + (wrap64 (Int.tdiv (wrap64 (y - 1)) 400)))) + d)) - 1) = dby y + d - 1 := by
  rw [w64 (y - 1) (by omega) (by omega), Int.tdiv_eq_ediv_of_nonneg (by omega), Int.tdiv_eq_ediv_of_nonneg (by omega), Int.tdiv_eq_ediv_of_nonneg (by omega)]
  rw [w64 (365 * (y - 1)) (by omega) (by omega), w64 ((y - 1) / 4) (by omega) (by omega), w64 ((y - 1) / 100) (by omega) (by omega), w64 ((y - 1) / 400) (by omega) (by omega)]
  rw [w64 (365 * (y - 1) + (y - 1) / 4) (by omega) (by omega), w64 (365 * (y - 1) + (y - 1) / 4 - (y - 1) / 100) (by omega) (by omega), w64 (365 * (y - 1) + (y - 1) / 4 - (y - 1) / 100 + (y - 1) / 400) (by omega) (by omega),
    w64 (365 * (y - 1) + (y - 1) / 4 - (y - 1) / 100 + (y - 1) / 400 + d) (by omega) (by omega), w64 _ (by omega) (by omega)]
  rfl
theorem dby_range (y : Int) (h1 : 1 ≤ y) (h2 : y ≤ 10000) : 0 ≤ dby y ∧ dby y ≤ 3652425 := by unfold dby; omega
theorem days_f (k : Nat) (hk : 20 ≤ k) (y m d h mi s z : Int) : moment_Days.f k y m d h mi s z = some (daysV y m d h mi s z) := by
  unfold moment_Days.f daysV
  rw [valid_f]
  simp only [Option.bind_some]
  cases hv : validB y m d h mi s z with
  | false => rfl
  | true =>
    obtain ⟨⟨a1, a2, a3, a4, a5, a6⟩, _⟩ := valid_facts hv
    have hl := length_range y m a3 a4
    have hd := dby_range y a1 (by omega)
    rw [if_pos rfl, if_pos rfl, dby_open y a1 a2 d a5 (by omega)]
    have := mom_l0 y m d h mi s z (m - 1).toNat k 1 (dby y + d - 1) (by omega) (by omega) a4 (by omega) (by omega) (by omega)
    rw [show ((1 : Nat) : Int) = 1 from rfl] at this
    rw [this]
    congr 1
    have e : cumN y (1 - 1) = 0 := rfl
    rw [e, show 1 - 1 + (m - 1).toNat = (m - 1).toNat from by omega]
    unfold daysP
    omega
theorem daysP_range {y m d h mi s z : Int} (hv : validB y m d h mi s z = true) : -719162 ≤ daysP y m d ∧ daysP y m d ≤ 2934000 := by
  obtain ⟨⟨a1, a2, a3, a4, a5, a6⟩, _⟩ := valid_facts hv
  have hl := length_range y m a3 a4
  have hd := dby_range y a1 (by omega)
  have hc := cumN_range y (m - 1).toNat (by omega)
  unfold daysP
  omega
theorem daysV_range (y m d h mi s z : Int) : -719162 ≤ daysV y m d h mi s z ∧ daysV y m d h mi s z ≤ 2934000 := by
  unfold daysV
  split
  · exact daysP_range ‹_›
  · omega
def weekP7 (y m d h mi s z : Int) : Int := if validB y m d h mi s z = true then (daysP y m d + 4) % 7 else 0
theorem floor_f (a b : Int) (hb : 0 < b) (h0 : -1000000000000 ≤ a) (h1 : a ≤ 1000000000000) (hb1 : b ≤ 1000000) : moment_floor.f a b = some (a / b, a % b) := by
  unfold moment_floor.f
  have hs : Int.sign b = 1 := Int.sign_eq_one_of_pos hb
  have hn : (b.natAbs : Int) = b := Int.natAbs_of_nonneg (by omega)
  have hm0 := Int.emod_nonneg a (show b ≠ 0 by omega)
  have hm1 := Int.emod_lt_of_pos a hb
  have hq : -1000000000000 ≤ a / b ∧ a / b ≤ 1000000000000 := by
    have h := Int.mul_ediv_add_emod a b
    constructor
    · exact Int.le_ediv_of_mul_le hb (by have : -1000000000000 * b ≤ -1000000000000 * 1 := Int.mul_le_mul_of_nonpos_left (by omega) (by omega); omega)
    · by_cases ha : 0 ≤ a
      · exact Int.le_trans (Int.ediv_le_self b ha) h1
      · have : a / b < 0 := Int.ediv_neg_of_neg_of_pos (by omega) hb
        omega
  rw [if_neg (by omega), Int.tdiv_eq_ediv, Int.tmod_eq_emod, hs]
  by_cases hc : 0 ≤ a ∨ b ∣ a
  · rw [if_pos hc, if_pos hc, show ((0 : Nat) : Int) = 0 from rfl, if_neg (by omega), w64 _ (by omega) (by omega)]
    simp
  · rw [if_neg hc, if_neg hc, hn]
    have hne : a % b ≠ 0 := fun h => hc (.inr (Int.dvd_of_emod_eq_zero h))
    rw [if_pos (by omega), w64 (a / b + 1) (by omega) (by omega), w64 (a / b + 1 - 1) (by omega) (by omega), w64 (a % b - b + b) (by omega) (by omega)]
    congr 2 <;> omega
theorem week_f (k : Nat) (hk : 20 ≤ k) (y m d h mi s z : Int) : moment_Weekday.f k y m d h mi s z = some (weekP7 y m d h mi s z) := by
  unfold moment_Weekday.f weekP7
  rw [valid_f, days_f k hk]
  simp only [Option.bind_some]
  have hr := daysV_range y m d h mi s z
  have hv2 : daysV y m d h mi s z = if validB y m d h mi s z = true then daysP y m d else 0 := rfl
  cases hv : validB y m d h mi s z with
  | false => rfl
  | true =>
    rw [hv, if_pos rfl] at hv2
    rw [if_pos rfl, if_pos rfl, w64 _ (by omega) (by omega), floor_f _ 7 (by omega) (by omega) (by omega) (by omega), hv2]
    rfl
def stampP (y m d h mi s z : Int) : Int := if validB y m d h mi s z = true then 86400 * daysP y m d + 3600 * h + 60 * mi + s - 60 * z else 0
theorem stamp_open {y m d h mi s z : Int} (hv : validB y m d h mi s z = true) (D : Int) (hD : D = daysP y m d) :
    wrap64 ((wrap64 ((wrap64 ((wrap64 ((wrap64 (86400 * D)) + (wrap64 (3600 * h)))) + (wrap64 (60 * mi)))) + s)) - (wrap64 (60 * z))) = 86400 * D + 3600 * h + 60 * mi + s - 60 * z := by
  have hr := daysP_range hv
  obtain ⟨_, ⟨a1, a2, a3, a4, a5, a6, a7, a8⟩⟩ := valid_facts hv
  rw [← hD] at hr
  rw [w64 (86400 * D) (by omega) (by omega), w64 (3600 * h) (by omega) (by omega), w64 (60 * mi) (by omega) (by omega), w64 (60 * z) (by omega) (by omega), w64 (86400 * D + 3600 * h) (by omega) (by omega), w64 (86400 * D + 3600 * h + 60 * mi) (by omega) (by omega), w64 (86400 * D + 3600 * h + 60 * mi + s) (by omega) (by omega), w64 _ (by omega) (by omega)]
theorem stamp_f (k : Nat) (hk : 20 ≤ k) (y m d h mi s z : Int) : moment_Stamp.f k y m d h mi s z = some (stampP y m d h mi s z) := by
  unfold moment_Stamp.f stampP
  rw [valid_f, days_f k hk]
  simp only [Option.bind_some]
  have hv2 : daysV y m d h mi s z = if validB y m d h mi s z = true then daysP y m d else 0 := rfl
  cases hv : validB y m d h mi s z with
  | false => rfl
  | true =>
    rw [hv, if_pos rfl] at hv2
    rw [if_pos rfl, if_pos rfl, hv2, stamp_open hv _ rfl]
end Go.Proofs.YtjlchnmpebdggaaDoor.Mo
end
section
namespace Go.Proofs.YtjlchnmpebdggaaDoor.Mo
open Go.RowKit Go.Proofs.YtjlchnmpebdggaaDoorW.PrintWords
def headerT (y m d h mi s z : Int) : ByteArray := weekL.getD (weekP7 y m d h mi s z).toNat ⟨#[]⟩ ++ (⟨#[44, 32]⟩ : ByteArray) ++ plainP d ++ (⟨#[32]⟩ : ByteArray) ++ monthL.getD (m - 1).toNat ⟨#[]⟩ ++ (⟨#[32]⟩ : ByteArray) ++ fourP y ++ (⟨#[32]⟩ : ByteArray) ++ clockP h mi s z
def printHeaderP (y m d h mi s z : Int) : ByteArray × Int := if refuseP y m d h mi s z = 0 then (headerT y m d h mi s z, 0) else (⟨#[]⟩, refuseP y m d h mi s z)
set_option maxHeartbeats 8000000 in
set_option maxRecDepth 100000 in
theorem printHeader_calls (y m d h mi s z : Int) (w : World) (hL : Laid w) :
    Calls Tryd.prog 30 #[.agg #[.int .i64 y, .int .i64 m, .int .i64 d, .int .i64 h, .int .i64 mi, .int .i64 s, .int .i64 z]] w fun e w' => e = .returned (.tuple #[.string (printHeaderP y m d h mi s z).1, .int .i64 (printHeaderP y m d h mi s z).2]) ∧ Below w.heap.size w w' := by
  have HR0 := refused_f y m d h mi s z
  by_cases hr : refuseP y m d h mi s z = 0
  · obtain ⟨hd, hv⟩ := refuse_zero hr
    obtain ⟨a1, a2, a3, a4, a5, a6⟩ := (isDay_iff _ _ _).1 hd
    obtain ⟨b1, b2, b3, b4, b5, b6, b7, b8⟩ := (time_iff _ _ _ _).1 ((valid_iff _ _ _ _ _ _ _).1 hv).2
    have hp : printHeaderP y m d h mi s z = (headerT y m d h mi s z, 0) := if_pos hr
    rw [hp]
    rw [hr] at HR0
    have HR := Lib.hid HR0
    obtain ⟨n, rfl⟩ : ∃ n : Nat, m = n + 1 := ⟨(m - 1).toNat, by omega⟩
    have hn : n < 12 := by omega
    have hwr0 : 0 ≤ weekP7 y ((n : Int) + 1) d h mi s z ∧ weekP7 y ((n : Int) + 1) d h mi s z ≤ 6 := by unfold weekP7; split <;> omega
    obtain ⟨wk, hwk⟩ : ∃ q : Nat, weekP7 y ((n : Int) + 1) d h mi s z = (q : Int) := ⟨(weekP7 y ((n : Int) + 1) d h mi s z).toNat, by omega⟩
    have HW := Lib.hid ((week_f 30000 (by omega) y ((n : Int) + 1) d h mi s z).trans (congrArg some hwk))
    have hk7 : wk < 7 := by omega
    have hT : headerT y ((n : Int) + 1) d h mi s z = weekL.getD wk ⟨#[]⟩ ++ (⟨#[44, 32]⟩ : ByteArray) ++ plainP d ++ (⟨#[32]⟩ : ByteArray) ++ monthL.getD n ⟨#[]⟩ ++ (⟨#[32]⟩ : ByteArray) ++ fourP y ++ (⟨#[32]⟩ : ByteArray) ++ clockP h mi s z := by
      unfold headerT
      rw [hwk]
      congr 6
      simp
    rw [hT]
    have hn0 : (0 : Int) ≤ (n : Int) := by omega
    have hn1 : (n : Int) < 12 := by omega
    have hk0 : (0 : Int) ≤ (wk : Int) := by omega
    have hk1 : (wk : Int) < 7 := by omega
    have hwr : IntKind.i64.wrap (n : Int) = (n : Int) := IntWalk.i64_in _ (by omega)
    have hms := month_size n hn
    have hws := week_size wk hk7
    have hfs := fourP_size y
    have hix := fun w => month_index w n hn
    have hiw := fun w => week_index w wk hk7
    have HF := Lib.hid (four_f y)
    have hck := clockP_size h mi s z
    have HCK : Hid (moment_clock.f y ((n : Int) + 1) d h mi s z = some (clockP h mi s z)) := Lib.hid (if_pos ⟨b7, b8⟩)
    have HPL := Lib.hid (plain_f d)
    have hps := plainP_size d
    generalize monthL.getD n ⟨#[]⟩ = mn at *
    generalize weekL.getD wk ⟨#[]⟩ = wn at *
    generalize fourP y = fy at *
    generalize clockP h mi s z = ck at *
    generalize plainP d = pd at *
    have HL := Lib.hid (laid_below hL (below_alloc (Below.refl _ w) (.cells #[.int .i64 y, .int .i64 ((n : Int) + 1), .int .i64 d, .int .i64 h, .int .i64 mi, .int .i64 s, .int .i64 z] 23)))
    have HL0 := Lib.hid hL
    clear hL hT hwk hwr0 hp hr HR0 hd hv a1 a2 a3 a4 a5 a6 b1 b2 b3 b4 b5 b6 b7 b8
    rcases hps with h1 | h1
    · skip
      go_enter Tryd.func30, Tryd.ntmps30
      go_wp2_with fail
      refine (moment_refused.calls _ _ _ _ _ _ _ 0 _ HR.out HL.out).mono ?_
      rintro e1 w1 ⟨rfl, hb1⟩
      have HB := Lib.hid (below_step (below_alloc (Below.refl _ w) _) hb1)
      have hbx := (hb1.block w.heap.size (by simp)).trans (heap_alloc_new w _)
      obtain ⟨⟨c0, c1, c2, c3, c4, c5, c6⟩, _⟩ := cells7 hbx
      clear hb1 hbx HL
      have HL := HL0
      go_upto_region 4 with fail
      go_region_held3 (fun w' => w'.cell? ⟨w.heap.size, 0, none⟩ = some (.int .i64 y) ∧ w'.cell? ⟨w.heap.size, 1, none⟩ = some (.int .i64 ((n : Int) + 1)) ∧ w'.cell? ⟨w.heap.size, 2, none⟩ = some (.int .i64 d) ∧ w'.cell? ⟨w.heap.size, 3, none⟩ = some (.int .i64 h) ∧ w'.cell? ⟨w.heap.size, 4, none⟩ = some (.int .i64 mi) ∧ w'.cell? ⟨w.heap.size, 5, none⟩ = some (.int .i64 s) ∧ w'.cell? ⟨w.heap.size, 6, none⟩ = some (.int .i64 z)) (go_keep) ((first | (go_at_call 65; (with_reducible refine (weekdays_calls _).mono ?_); rintro e1 u1 ⟨rfl, hb⟩; have n0_ := Lib.hid (below_step (by repeat (first | (with_reducible exact HB.out) | (with_reducible apply below_drew) | (with_reducible apply pw_below_drewN) | exact HB.out)) hb); clear HB; have HB := n0_; clear n0_; have k0 := pw_cell_below hb (a := ⟨w.heap.size, 0, none⟩) (v := .int .i64 y) (by first | assumption | go_simp); have k1 := pw_cell_below hb (a := ⟨w.heap.size, 1, none⟩) (v := .int .i64 ((n : Int) + 1)) (by first | assumption | go_simp); have k2 := pw_cell_below hb (a := ⟨w.heap.size, 2, none⟩) (v := .int .i64 d) (by first | assumption | go_simp); have k3 := pw_cell_below hb (a := ⟨w.heap.size, 3, none⟩) (v := .int .i64 h) (by first | assumption | go_simp); have k4 := pw_cell_below hb (a := ⟨w.heap.size, 4, none⟩) (v := .int .i64 mi) (by first | assumption | go_simp); have k5 := pw_cell_below hb (a := ⟨w.heap.size, 5, none⟩) (v := .int .i64 s) (by first | assumption | go_simp); have k6 := pw_cell_below hb (a := ⟨w.heap.size, 6, none⟩) (v := .int .i64 z) (by first | assumption | go_simp); clear hb) | (go_at_call 21; (with_reducible refine (moment_Weekday.calls 30000 y ((n : Int) + 1) d h mi s z (wk : Int) _ HW.out (laid_below HL.out (by repeat (first | (with_reducible exact HB.out) | (with_reducible apply below_drew) | (with_reducible apply pw_below_drewN) | exact HB.out)))).mono ?_); rintro e1 u2 ⟨rfl, hb⟩; have n0_ := Lib.hid (below_step (by repeat (first | (with_reducible exact HB.out) | (with_reducible apply below_drew) | (with_reducible apply pw_below_drewN) | exact HB.out)) hb); clear HB; have HB := n0_; clear n0_; have k0 := pw_cell_below hb (a := ⟨w.heap.size, 0, none⟩) (v := .int .i64 y) (by first | assumption | go_simp); have k1 := pw_cell_below hb (a := ⟨w.heap.size, 1, none⟩) (v := .int .i64 ((n : Int) + 1)) (by first | assumption | go_simp); have k2 := pw_cell_below hb (a := ⟨w.heap.size, 2, none⟩) (v := .int .i64 d) (by first | assumption | go_simp); have k3 := pw_cell_below hb (a := ⟨w.heap.size, 3, none⟩) (v := .int .i64 h) (by first | assumption | go_simp); have k4 := pw_cell_below hb (a := ⟨w.heap.size, 4, none⟩) (v := .int .i64 mi) (by first | assumption | go_simp); have k5 := pw_cell_below hb (a := ⟨w.heap.size, 5, none⟩) (v := .int .i64 s) (by first | assumption | go_simp); have k6 := pw_cell_below hb (a := ⟨w.heap.size, 6, none⟩) (v := .int .i64 z) (by first | assumption | go_simp); clear hb) | (go_at_call 49; (with_reducible refine (moment_plain.calls d pd _ HPL.out).mono ?_); rintro e1 u3 ⟨rfl, hb⟩; have n0_ := Lib.hid (below_step (by repeat (first | (with_reducible exact HB.out) | (with_reducible apply below_drew) | (with_reducible apply pw_below_drewN) | exact HB.out)) hb); clear HB; have HB := n0_; clear n0_; have k0 := pw_cell_below hb (a := ⟨w.heap.size, 0, none⟩) (v := .int .i64 y) (by first | assumption | go_simp); have k1 := pw_cell_below hb (a := ⟨w.heap.size, 1, none⟩) (v := .int .i64 ((n : Int) + 1)) (by first | assumption | go_simp); have k2 := pw_cell_below hb (a := ⟨w.heap.size, 2, none⟩) (v := .int .i64 d) (by first | assumption | go_simp); have k3 := pw_cell_below hb (a := ⟨w.heap.size, 3, none⟩) (v := .int .i64 h) (by first | assumption | go_simp); have k4 := pw_cell_below hb (a := ⟨w.heap.size, 4, none⟩) (v := .int .i64 mi) (by first | assumption | go_simp); have k5 := pw_cell_below hb (a := ⟨w.heap.size, 5, none⟩) (v := .int .i64 s) (by first | assumption | go_simp); have k6 := pw_cell_below hb (a := ⟨w.heap.size, 6, none⟩) (v := .int .i64 z) (by first | assumption | go_simp); clear hb) | (go_at_call 66; (with_reducible refine (months_calls _).mono ?_); rintro e1 u4 ⟨rfl, hb⟩; have n0_ := Lib.hid (below_step (by repeat (first | (with_reducible exact HB.out) | (with_reducible apply below_drew) | (with_reducible apply pw_below_drewN) | exact HB.out)) hb); clear HB; have HB := n0_; clear n0_; have k0 := pw_cell_below hb (a := ⟨w.heap.size, 0, none⟩) (v := .int .i64 y) (by first | assumption | go_simp); have k1 := pw_cell_below hb (a := ⟨w.heap.size, 1, none⟩) (v := .int .i64 ((n : Int) + 1)) (by first | assumption | go_simp); have k2 := pw_cell_below hb (a := ⟨w.heap.size, 2, none⟩) (v := .int .i64 d) (by first | assumption | go_simp); have k3 := pw_cell_below hb (a := ⟨w.heap.size, 3, none⟩) (v := .int .i64 h) (by first | assumption | go_simp); have k4 := pw_cell_below hb (a := ⟨w.heap.size, 4, none⟩) (v := .int .i64 mi) (by first | assumption | go_simp); have k5 := pw_cell_below hb (a := ⟨w.heap.size, 5, none⟩) (v := .int .i64 s) (by first | assumption | go_simp); have k6 := pw_cell_below hb (a := ⟨w.heap.size, 6, none⟩) (v := .int .i64 z) (by first | assumption | go_simp); clear hb) | (go_at_call 67; (with_reducible refine (moment_four.calls y fy _ HF.out).mono ?_); rintro e1 u5 ⟨rfl, hb⟩; have n0_ := Lib.hid (below_step (by repeat (first | (with_reducible exact HB.out) | (with_reducible apply below_drew) | (with_reducible apply pw_below_drewN) | exact HB.out)) hb); clear HB; have HB := n0_; clear n0_; have k0 := pw_cell_below hb (a := ⟨w.heap.size, 0, none⟩) (v := .int .i64 y) (by first | assumption | go_simp); have k1 := pw_cell_below hb (a := ⟨w.heap.size, 1, none⟩) (v := .int .i64 ((n : Int) + 1)) (by first | assumption | go_simp); have k2 := pw_cell_below hb (a := ⟨w.heap.size, 2, none⟩) (v := .int .i64 d) (by first | assumption | go_simp); have k3 := pw_cell_below hb (a := ⟨w.heap.size, 3, none⟩) (v := .int .i64 h) (by first | assumption | go_simp); have k4 := pw_cell_below hb (a := ⟨w.heap.size, 4, none⟩) (v := .int .i64 mi) (by first | assumption | go_simp); have k5 := pw_cell_below hb (a := ⟨w.heap.size, 5, none⟩) (v := .int .i64 s) (by first | assumption | go_simp); have k6 := pw_cell_below hb (a := ⟨w.heap.size, 6, none⟩) (v := .int .i64 z) (by first | assumption | go_simp); clear hb) | (go_at_call 64; (with_reducible refine (moment_clock.calls y ((n : Int) + 1) d h mi s z ck _ HCK.out).mono ?_); rintro e1 u6 ⟨rfl, hb⟩; have n0_ := Lib.hid (below_step (by repeat (first | (with_reducible exact HB.out) | (with_reducible apply below_drew) | (with_reducible apply pw_below_drewN) | exact HB.out)) hb); clear HB; have HB := n0_; clear n0_; have k0 := pw_cell_below hb (a := ⟨w.heap.size, 0, none⟩) (v := .int .i64 y) (by first | assumption | go_simp); have k1 := pw_cell_below hb (a := ⟨w.heap.size, 1, none⟩) (v := .int .i64 ((n : Int) + 1)) (by first | assumption | go_simp); have k2 := pw_cell_below hb (a := ⟨w.heap.size, 2, none⟩) (v := .int .i64 d) (by first | assumption | go_simp); have k3 := pw_cell_below hb (a := ⟨w.heap.size, 3, none⟩) (v := .int .i64 h) (by first | assumption | go_simp); have k4 := pw_cell_below hb (a := ⟨w.heap.size, 4, none⟩) (v := .int .i64 mi) (by first | assumption | go_simp); have k5 := pw_cell_below hb (a := ⟨w.heap.size, 5, none⟩) (v := .int .i64 s) (by first | assumption | go_simp); have k6 := pw_cell_below hb (a := ⟨w.heap.size, 6, none⟩) (v := .int .i64 z) (by first | assumption | go_simp); clear hb)))
      all_goals go_wp2
      all_goals go_ret2
      all_goals exact ⟨rfl, (by repeat (first | (with_reducible exact HB.out) | (with_reducible apply below_drew) | (with_reducible apply pw_below_drewN) | exact HB.out))⟩
    · skip
      go_enter Tryd.func30, Tryd.ntmps30
      go_wp2_with fail
      refine (moment_refused.calls _ _ _ _ _ _ _ 0 _ HR.out HL.out).mono ?_
      rintro e1 w1 ⟨rfl, hb1⟩
      have HB := Lib.hid (below_step (below_alloc (Below.refl _ w) _) hb1)
      have hbx := (hb1.block w.heap.size (by simp)).trans (heap_alloc_new w _)
      obtain ⟨⟨c0, c1, c2, c3, c4, c5, c6⟩, _⟩ := cells7 hbx
      clear hb1 hbx HL
      have HL := HL0
      go_upto_region 4 with fail
      go_region_held3 (fun w' => w'.cell? ⟨w.heap.size, 0, none⟩ = some (.int .i64 y) ∧ w'.cell? ⟨w.heap.size, 1, none⟩ = some (.int .i64 ((n : Int) + 1)) ∧ w'.cell? ⟨w.heap.size, 2, none⟩ = some (.int .i64 d) ∧ w'.cell? ⟨w.heap.size, 3, none⟩ = some (.int .i64 h) ∧ w'.cell? ⟨w.heap.size, 4, none⟩ = some (.int .i64 mi) ∧ w'.cell? ⟨w.heap.size, 5, none⟩ = some (.int .i64 s) ∧ w'.cell? ⟨w.heap.size, 6, none⟩ = some (.int .i64 z)) (go_keep) ((first | (go_at_call 65; (with_reducible refine (weekdays_calls _).mono ?_); rintro e1 u1 ⟨rfl, hb⟩; have n0_ := Lib.hid (below_step (by repeat (first | (with_reducible exact HB.out) | (with_reducible apply below_drew) | (with_reducible apply pw_below_drewN) | exact HB.out)) hb); clear HB; have HB := n0_; clear n0_; have k0 := pw_cell_below hb (a := ⟨w.heap.size, 0, none⟩) (v := .int .i64 y) (by first | assumption | go_simp); have k1 := pw_cell_below hb (a := ⟨w.heap.size, 1, none⟩) (v := .int .i64 ((n : Int) + 1)) (by first | assumption | go_simp); have k2 := pw_cell_below hb (a := ⟨w.heap.size, 2, none⟩) (v := .int .i64 d) (by first | assumption | go_simp); have k3 := pw_cell_below hb (a := ⟨w.heap.size, 3, none⟩) (v := .int .i64 h) (by first | assumption | go_simp); have k4 := pw_cell_below hb (a := ⟨w.heap.size, 4, none⟩) (v := .int .i64 mi) (by first | assumption | go_simp); have k5 := pw_cell_below hb (a := ⟨w.heap.size, 5, none⟩) (v := .int .i64 s) (by first | assumption | go_simp); have k6 := pw_cell_below hb (a := ⟨w.heap.size, 6, none⟩) (v := .int .i64 z) (by first | assumption | go_simp); clear hb) | (go_at_call 21; (with_reducible refine (moment_Weekday.calls 30000 y ((n : Int) + 1) d h mi s z (wk : Int) _ HW.out (laid_below HL.out (by repeat (first | (with_reducible exact HB.out) | (with_reducible apply below_drew) | (with_reducible apply pw_below_drewN) | exact HB.out)))).mono ?_); rintro e1 u2 ⟨rfl, hb⟩; have n0_ := Lib.hid (below_step (by repeat (first | (with_reducible exact HB.out) | (with_reducible apply below_drew) | (with_reducible apply pw_below_drewN) | exact HB.out)) hb); clear HB; have HB := n0_; clear n0_; have k0 := pw_cell_below hb (a := ⟨w.heap.size, 0, none⟩) (v := .int .i64 y) (by first | assumption | go_simp); have k1 := pw_cell_below hb (a := ⟨w.heap.size, 1, none⟩) (v := .int .i64 ((n : Int) + 1)) (by first | assumption | go_simp); have k2 := pw_cell_below hb (a := ⟨w.heap.size, 2, none⟩) (v := .int .i64 d) (by first | assumption | go_simp); have k3 := pw_cell_below hb (a := ⟨w.heap.size, 3, none⟩) (v := .int .i64 h) (by first | assumption | go_simp); have k4 := pw_cell_below hb (a := ⟨w.heap.size, 4, none⟩) (v := .int .i64 mi) (by first | assumption | go_simp); have k5 := pw_cell_below hb (a := ⟨w.heap.size, 5, none⟩) (v := .int .i64 s) (by first | assumption | go_simp); have k6 := pw_cell_below hb (a := ⟨w.heap.size, 6, none⟩) (v := .int .i64 z) (by first | assumption | go_simp); clear hb) | (go_at_call 49; (with_reducible refine (moment_plain.calls d pd _ HPL.out).mono ?_); rintro e1 u3 ⟨rfl, hb⟩; have n0_ := Lib.hid (below_step (by repeat (first | (with_reducible exact HB.out) | (with_reducible apply below_drew) | (with_reducible apply pw_below_drewN) | exact HB.out)) hb); clear HB; have HB := n0_; clear n0_; have k0 := pw_cell_below hb (a := ⟨w.heap.size, 0, none⟩) (v := .int .i64 y) (by first | assumption | go_simp); have k1 := pw_cell_below hb (a := ⟨w.heap.size, 1, none⟩) (v := .int .i64 ((n : Int) + 1)) (by first | assumption | go_simp); have k2 := pw_cell_below hb (a := ⟨w.heap.size, 2, none⟩) (v := .int .i64 d) (by first | assumption | go_simp); have k3 := pw_cell_below hb (a := ⟨w.heap.size, 3, none⟩) (v := .int .i64 h) (by first | assumption | go_simp); have k4 := pw_cell_below hb (a := ⟨w.heap.size, 4, none⟩) (v := .int .i64 mi) (by first | assumption | go_simp); have k5 := pw_cell_below hb (a := ⟨w.heap.size, 5, none⟩) (v := .int .i64 s) (by first | assumption | go_simp); have k6 := pw_cell_below hb (a := ⟨w.heap.size, 6, none⟩) (v := .int .i64 z) (by first | assumption | go_simp); clear hb) | (go_at_call 66; (with_reducible refine (months_calls _).mono ?_); rintro e1 u4 ⟨rfl, hb⟩; have n0_ := Lib.hid (below_step (by repeat (first | (with_reducible exact HB.out) | (with_reducible apply below_drew) | (with_reducible apply pw_below_drewN) | exact HB.out)) hb); clear HB; have HB := n0_; clear n0_; have k0 := pw_cell_below hb (a := ⟨w.heap.size, 0, none⟩) (v := .int .i64 y) (by first | assumption | go_simp); have k1 := pw_cell_below hb (a := ⟨w.heap.size, 1, none⟩) (v := .int .i64 ((n : Int) + 1)) (by first | assumption | go_simp); have k2 := pw_cell_below hb (a := ⟨w.heap.size, 2, none⟩) (v := .int .i64 d) (by first | assumption | go_simp); have k3 := pw_cell_below hb (a := ⟨w.heap.size, 3, none⟩) (v := .int .i64 h) (by first | assumption | go_simp); have k4 := pw_cell_below hb (a := ⟨w.heap.size, 4, none⟩) (v := .int .i64 mi) (by first | assumption | go_simp); have k5 := pw_cell_below hb (a := ⟨w.heap.size, 5, none⟩) (v := .int .i64 s) (by first | assumption | go_simp); have k6 := pw_cell_below hb (a := ⟨w.heap.size, 6, none⟩) (v := .int .i64 z) (by first | assumption | go_simp); clear hb) | (go_at_call 67; (with_reducible refine (moment_four.calls y fy _ HF.out).mono ?_); rintro e1 u5 ⟨rfl, hb⟩; have n0_ := Lib.hid (below_step (by repeat (first | (with_reducible exact HB.out) | (with_reducible apply below_drew) | (with_reducible apply pw_below_drewN) | exact HB.out)) hb); clear HB; have HB := n0_; clear n0_; have k0 := pw_cell_below hb (a := ⟨w.heap.size, 0, none⟩) (v := .int .i64 y) (by first | assumption | go_simp); have k1 := pw_cell_below hb (a := ⟨w.heap.size, 1, none⟩) (v := .int .i64 ((n : Int) + 1)) (by first | assumption | go_simp); have k2 := pw_cell_below hb (a := ⟨w.heap.size, 2, none⟩) (v := .int .i64 d) (by first | assumption | go_simp); have k3 := pw_cell_below hb (a := ⟨w.heap.size, 3, none⟩) (v := .int .i64 h) (by first | assumption | go_simp); have k4 := pw_cell_below hb (a := ⟨w.heap.size, 4, none⟩) (v := .int .i64 mi) (by first | assumption | go_simp); have k5 := pw_cell_below hb (a := ⟨w.heap.size, 5, none⟩) (v := .int .i64 s) (by first | assumption | go_simp); have k6 := pw_cell_below hb (a := ⟨w.heap.size, 6, none⟩) (v := .int .i64 z) (by first | assumption | go_simp); clear hb) | (go_at_call 64; (with_reducible refine (moment_clock.calls y ((n : Int) + 1) d h mi s z ck _ HCK.out).mono ?_); rintro e1 u6 ⟨rfl, hb⟩; have n0_ := Lib.hid (below_step (by repeat (first | (with_reducible exact HB.out) | (with_reducible apply below_drew) | (with_reducible apply pw_below_drewN) | exact HB.out)) hb); clear HB; have HB := n0_; clear n0_; have k0 := pw_cell_below hb (a := ⟨w.heap.size, 0, none⟩) (v := .int .i64 y) (by first | assumption | go_simp); have k1 := pw_cell_below hb (a := ⟨w.heap.size, 1, none⟩) (v := .int .i64 ((n : Int) + 1)) (by first | assumption | go_simp); have k2 := pw_cell_below hb (a := ⟨w.heap.size, 2, none⟩) (v := .int .i64 d) (by first | assumption | go_simp); have k3 := pw_cell_below hb (a := ⟨w.heap.size, 3, none⟩) (v := .int .i64 h) (by first | assumption | go_simp); have k4 := pw_cell_below hb (a := ⟨w.heap.size, 4, none⟩) (v := .int .i64 mi) (by first | assumption | go_simp); have k5 := pw_cell_below hb (a := ⟨w.heap.size, 5, none⟩) (v := .int .i64 s) (by first | assumption | go_simp); have k6 := pw_cell_below hb (a := ⟨w.heap.size, 6, none⟩) (v := .int .i64 z) (by first | assumption | go_simp); clear hb)))
      all_goals go_wp2
      all_goals go_ret2
      all_goals exact ⟨rfl, (by repeat (first | (with_reducible exact HB.out) | (with_reducible apply below_drew) | (with_reducible apply pw_below_drewN) | exact HB.out))⟩
  · have hp : printHeaderP y m d h mi s z = (⟨#[]⟩, refuseP y m d h mi s z) := if_neg hr
    rw [hp]
    have HR := Lib.hid HR0
    generalize refuseP y m d h mi s z = q at *
    have hq : (q != 0) = true := by rw [bne_iff_ne]; exact hr
    have HL := Lib.hid (laid_below hL (below_alloc (Below.refl _ w) (.cells #[.int .i64 y, .int .i64 m, .int .i64 d, .int .i64 h, .int .i64 mi, .int .i64 s, .int .i64 z] 23)))
    clear hL hp hr HR0
    go_enter Tryd.func30, Tryd.ntmps30
    go_wp2_with fail
    refine (moment_refused.calls _ _ _ _ _ _ _ q _ HR.out HL.out).mono ?_
    rintro e1 w1 ⟨rfl, hb1⟩
    have HB1 := Lib.hid (below_step (below_alloc (Below.refl _ w) _) hb1)
    clear hb1
    go_wp2
    go_ret2
    exact ⟨rfl, HB1.out⟩
def moment_PrintHeader.f (y m d h mi s z : Int) : Option (ByteArray × Int) := some (printHeaderP y m d h mi s z)
theorem moment_PrintHeader.calls (a0_0 a0_1 a0_2 a0_3 a0_4 a0_5 a0_6 : Int) (r1 : ByteArray) (r2 : Int) (w : World) (h : moment_PrintHeader.f a0_0 a0_1 a0_2 a0_3 a0_4 a0_5 a0_6 = some (r1, r2)) (hL : Laid w) :
    Calls Tryd.prog 30 #[.agg #[.int .i64 a0_0, .int .i64 a0_1, .int .i64 a0_2, .int .i64 a0_3, .int .i64 a0_4, .int .i64 a0_5, .int .i64 a0_6]] w fun e w' => e = .returned (.tuple #[.string r1, .int .i64 r2]) ∧ Below w.heap.size w w' := by
  have h := Option.some.inj h
  have h2 := printHeader_calls a0_0 a0_1 a0_2 a0_3 a0_4 a0_5 a0_6 w hL
  rw [h] at h2
  exact h2
end Go.Proofs.YtjlchnmpebdggaaDoor.Mo
end
section
namespace Go.Proofs.YtjlchnmpebdggaaDoor.Mo
open Go.RowKit Go.Proofs.YtjlchnmpebdggaaDoorW.PrintWords
theorem take_while_app {p : UInt8 → Bool} : ∀ (q r : List UInt8), q.all p = true → (∀ c r', r = c :: r' → p c = false) → (q ++ r).takeWhile p = q
  | [], [], _, _ => rfl
  | [], c :: r', _, h => by
    have := h c r' rfl
    simp [this]
  | c :: q, r, h, h2 => by
    rw [List.all_cons, Bool.and_eq_true] at h
    rw [List.cons_append, List.takeWhile_cons, if_pos h.1, take_while_app q r h.2 h2]
theorem drop_more {l : List UInt8} {i : Nat} {a b : List UInt8} (h : l.drop i = a ++ b) : l.drop (i + a.length) = b := by
  rw [← List.drop_drop, h, List.drop_left]
theorem blanks_none {c : UInt8} {q : List UInt8} (hb : isBlank c = false) (h40 : c.toNat ≠ 40) : blanksL (c :: q) 0 = 0 := by
  unfold blanksL
  rw [if_neg h40, if_neg (by omega), if_neg (by omega), if_neg (by rw [hb]; simp)]
theorem blanks_one {c : UInt8} {q : List UInt8} (hb : isBlank c = false) (h40 : c.toNat ≠ 40) : blanksL (32 :: c :: q) 0 = 1 := by
  have hb32 : isBlank 32 = true := by decide
  unfold blanksL
  rw [if_neg (by decide), if_neg (by omega), if_neg (by omega), if_pos (.inr hb32), blanks_none hb h40]
theorem next_gen (s : ByteArray) (i : Nat) (sp : List UInt8) (c : UInt8) (p r : List UInt8) (K : Int) (hi : i ≤ s.size) (hsp : sp = [] ∨ sp = [32]) (hd : s.data.toList.drop i = sp ++ (c :: p ++ r))
    (hb : isBlank c = false) (h40 : c.toNat ≠ 40) (hk : ∀ f, s.data.toList.drop f = c :: p ++ r → pieceAt s.data.toList f = (f + (c :: p).length, K)) :
    ∃ j, nextP s i = (j, K, ⟨(c :: p).toArray⟩) ∧ s.data.toList.drop j = r ∧ j ≤ s.size := by
  have hl := toList_len s
  have hlen : sp.length + ((c :: p).length + r.length) = s.data.toList.length - i := by
    have := congrArg List.length hd
    rw [List.length_drop, List.length_append, List.length_append] at this
    omega
  have hc : (c :: p).length = p.length + 1 := List.length_cons
  have hbl : blankP s.data.toList i = i + sp.length := by
    unfold blankP
    rw [hd]
    rcases hsp with rfl | rfl
    · exact congrArg (fun x => i + x) (blanks_none hb h40)
    · exact congrArg (fun x => i + x) (blanks_one hb h40)
  have hdf : s.data.toList.drop (i + sp.length) = c :: p ++ r := drop_more hd
  have hdj : s.data.toList.drop (i + sp.length + (c :: p).length) = r := drop_more hdf
  refine ⟨i + sp.length + (c :: p).length, ?_, hdj, by omega⟩
  unfold nextP
  simp only
  rw [hbl, if_neg (by omega), hk _ hdf]
  simp only [Prod.mk.injEq, true_and]
  apply ByteArray.ext
  apply Array.toList_inj.1
  rw [ByteArray.data_extract, Array.toList_extract, List.extract_eq_take_drop, hdf, show i + sp.length + (c :: p).length - (i + sp.length) = (c :: p).length from by omega, List.take_left]
theorem getD_drop {l : List UInt8} {f : Nat} {c : UInt8} {q : List UInt8} (h : l.drop f = c :: q) : l.getD f 0 = c ∧ l.drop (f + 1) = q := by
  constructor
  · have : (l.drop f)[0]? = some c := by rw [h]; rfl
    rw [List.getElem?_drop, Nat.add_zero] at this
    rw [List.getD_eq_getElem?_getD, this]
    rfl
  · rw [← List.drop_drop, h]; rfl
theorem run_at {P : UInt8 → Bool} {l : List UInt8} {f : Nat} {p r : List UInt8} (h : l.drop f = p ++ r) (hp : p.all P = true) (hr : ∀ c r', r = c :: r' → P c = false) : runP P l f = f + p.length := by
  unfold runP
  rw [h, take_while_app p r hp hr]
theorem piece_let {l : List UInt8} {f : Nat} {c : UInt8} {p r : List UInt8} (h : l.drop f = c :: p ++ r) (hc : isLet c = true) (hp : p.all isLet = true) (hr : ∀ c r', r = c :: r' → isLet c = false) : pieceAt l f = (f + (c :: p).length, 1) := by
  obtain ⟨h1, h2⟩ := getD_drop h
  unfold pieceAt
  simp only
  rw [h1, if_pos hc, run_at h2 hp hr, List.length_cons]
  congr 1
  omega
theorem piece_dig {l : List UInt8} {f : Nat} {c : UInt8} {p r : List UInt8} (h : l.drop f = c :: p ++ r) (hc : isLet c = false) (hc2 : isDig c = true) (hp : p.all isDig = true) (hr : ∀ c r', r = c :: r' → isDig c = false) : pieceAt l f = (f + (c :: p).length, 2) := by
  obtain ⟨h1, h2⟩ := getD_drop h
  unfold pieceAt
  simp only
  rw [h1, if_neg (by rw [hc]; decide), if_pos hc2, run_at h2 hp hr, List.length_cons]
  congr 1
  omega
theorem piece_sign {l : List UInt8} {f : Nat} {c : UInt8} {p r : List UInt8} (h : l.drop f = c :: p ++ r) (hc : c = 43 ∨ c = 45) (hp : p.all isDig = true) (hp1 : 1 ≤ p.length) (hr : ∀ c r', r = c :: r' → isDig c = false) : pieceAt l f = (f + (c :: p).length, 3) := by
  obtain ⟨h1, h2⟩ := getD_drop h
  have n1 : isLet c = false ∧ isDig c = false ∧ (c.toNat = 43 ∨ c.toNat = 45) := by rcases hc with rfl | rfl <;> decide
  unfold pieceAt
  simp only
  rw [h1, if_neg (by rw [n1.1]; decide), if_neg (by rw [n1.2.1]; decide), if_pos n1.2.2, run_at h2 hp hr, if_pos (by omega), List.length_cons]
  congr 1
  omega
theorem piece_comma {l : List UInt8} {f : Nat} {r : List UInt8} (h : l.drop f = 44 :: [] ++ r) : pieceAt l f = (f + [(44 : UInt8)].length, 4) := by
  obtain ⟨h1, _⟩ := getD_drop h
  unfold pieceAt
  simp only
  rw [h1, if_neg (by decide), if_neg (by decide), if_neg (by decide), if_pos (by decide)]
  rfl
theorem piece_colon {l : List UInt8} {f : Nat} {r : List UInt8} (h : l.drop f = 58 :: [] ++ r) : pieceAt l f = (f + [(58 : UInt8)].length, 5) := by
  obtain ⟨h1, _⟩ := getD_drop h
  unfold pieceAt
  simp only
  rw [h1, if_neg (by decide), if_neg (by decide), if_neg (by decide), if_neg (by decide), if_pos (by decide)]
  rfl
theorem next_end (s : ByteArray) (i : Nat) (hi : i ≤ s.size) (hd : s.data.toList.drop i = []) : nextP s i = (i, 0, ⟨#[]⟩) := by
  have hl := toList_len s
  have h1 : s.data.toList.length ≤ i := by
    have := congrArg List.length hd
    rw [List.length_drop, List.length_nil] at this
    omega
  have hbl : blankP s.data.toList i = i := by unfold blankP; rw [hd]; rfl
  unfold nextP
  simp only
  rw [hbl, if_pos (by omega)]
theorem let_facts {c : UInt8} (h : isLet c = true) : isBlank c = false ∧ c.toNat ≠ 40 ∧ isDig c = false := by
  unfold isLet at h
  simp only [Bool.or_eq_true, Bool.and_eq_true, decide_eq_true_eq] at h
  refine ⟨?_, by omega, ?_⟩
  · unfold isBlank
    simp only [Bool.or_eq_false_iff, beq_eq_false_iff_ne]
    omega
  · unfold isDig
    simp only [Bool.and_eq_false_iff, decide_eq_false_iff_not]
    omega
theorem dig_facts {c : UInt8} (h : isDig c = true) : isBlank c = false ∧ c.toNat ≠ 40 ∧ isLet c = false := by
  have := (isDig_iff c).1 h
  refine ⟨?_, by omega, ?_⟩
  · unfold isBlank
    simp only [Bool.or_eq_false_iff, beq_eq_false_iff_ne]
    omega
  · unfold isLet
    simp only [Bool.or_eq_false_iff, Bool.and_eq_false_iff, decide_eq_false_iff_not]
    omega
theorem text_eq {t : ByteArray} {l : List UInt8} (h : t.data.toList = l) : (⟨l.toArray⟩ : ByteArray) = t := by
  apply ByteArray.ext
  apply Array.toList_inj.1
  rw [h]
theorem n_let (s : ByteArray) (i : Nat) (sp : List UInt8) (t : ByteArray) (c : UInt8) (p r : List UInt8) (hi : i ≤ s.size) (hsp : sp = [] ∨ sp = [32]) (ht : t.data.toList = c :: p) (hd : s.data.toList.drop i = sp ++ (c :: p ++ r)) (ha : (c :: p).all isLet = true) (hr : ∀ c r', r = c :: r' → isLet c = false) :
    ∃ j, nextP s i = (j, 1, t) ∧ s.data.toList.drop j = r ∧ j ≤ s.size := by
  rw [List.all_cons, Bool.and_eq_true] at ha
  have := next_gen s i sp c p r 1 hi hsp hd (let_facts ha.1).1 (let_facts ha.1).2.1 (fun f h => piece_let h ha.1 ha.2 hr)
  rwa [text_eq ht] at this
theorem n_dig (s : ByteArray) (i : Nat) (sp : List UInt8) (t : ByteArray) (c : UInt8) (p r : List UInt8) (hi : i ≤ s.size) (hsp : sp = [] ∨ sp = [32]) (ht : t.data.toList = c :: p) (hd : s.data.toList.drop i = sp ++ (c :: p ++ r)) (ha : (c :: p).all isDig = true) (hr : ∀ c r', r = c :: r' → isDig c = false) :
    ∃ j, nextP s i = (j, 2, t) ∧ s.data.toList.drop j = r ∧ j ≤ s.size := by
  rw [List.all_cons, Bool.and_eq_true] at ha
  have := next_gen s i sp c p r 2 hi hsp hd (dig_facts ha.1).1 (dig_facts ha.1).2.1 (fun f h => piece_dig h (dig_facts ha.1).2.2 ha.1 ha.2 hr)
  rwa [text_eq ht] at this
theorem n_colon (s : ByteArray) (i : Nat) (r : List UInt8) (hi : i ≤ s.size) (hd : s.data.toList.drop i = 58 :: r) : ∃ j, nextP s i = (j, 5, ⟨#[58]⟩) ∧ s.data.toList.drop j = r ∧ j ≤ s.size :=
  next_gen s i [] 58 [] r 5 hi (.inl rfl) hd (by decide) (by decide) (fun _ h => piece_colon h)
theorem n_comma (s : ByteArray) (i : Nat) (r : List UInt8) (hi : i ≤ s.size) (hd : s.data.toList.drop i = 44 :: r) : ∃ j, nextP s i = (j, 4, ⟨#[44]⟩) ∧ s.data.toList.drop j = r ∧ j ≤ s.size :=
  next_gen s i [] 44 [] r 4 hi (.inl rfl) hd (by decide) (by decide) (fun _ h => piece_comma h)
theorem n_sign (s : ByteArray) (i : Nat) (t : ByteArray) (c : UInt8) (p r : List UInt8) (hi : i ≤ s.size) (ht : t.data.toList = c :: p) (hd : s.data.toList.drop i = [32] ++ (c :: p ++ r)) (hc : c = 43 ∨ c = 45) (ha : p.all isDig = true) (hp1 : 1 ≤ p.length) (hr : ∀ c r', r = c :: r' → isDig c = false) :
    ∃ j, nextP s i = (j, 3, t) ∧ s.data.toList.drop j = r ∧ j ≤ s.size := by
  have n1 : isBlank c = false ∧ c.toNat ≠ 40 := by rcases hc with rfl | rfl <;> decide
  have := next_gen s i [32] c p r 3 hi (.inr rfl) hd n1.1 n1.2 (fun f h => piece_sign h hc ha hp1 hr)
  rwa [text_eq ht] at this
theorem head_not {P : UInt8 → Bool} {a : UInt8} {q : List UInt8} (h : P a = false) : ∀ c r', a :: q = c :: r' → P c = false := by
  intro c r' e
  injection e with e1 _
  rw [← e1]
  exact h
theorem header_back (y m d h mi s z : Int) (hv : validB y m d h mi s z = true) : moment_ReadHeader.f (headerT y m d h mi s z) = some (y, m, d, h, mi, s, z, 0) := by
  obtain ⟨hd, ht⟩ := (valid_iff _ _ _ _ _ _ _).1 hv
  obtain ⟨a1, a2, a3, a4, a5, a6⟩ := (isDay_iff _ _ _).1 hd
  obtain ⟨b1, b2, b3, b4, b5, b6, b7, b8⟩ := (time_iff _ _ _ _).1 ht
  have hlr := length_range y m a3 a4
  have hwr : 0 ≤ weekP7 y m d h mi s z ∧ weekP7 y m d h mi s z ≤ 6 := by unfold weekP7; split <;> omega
  obtain ⟨wa, wb, wc, hw, hwl, hwp⟩ := week_facts (weekP7 y m d h mi s z).toNat (by omega)
  obtain ⟨ma, mb, mc, hm, hml, hmp⟩ := month_facts (m - 1).toNat (by omega)
  have r0 : 0 ≤ absZ z ∧ absZ z ≤ 1439 := by unfold absZ; split <;> omega
  have l1 := two_list (absZ z / 60) (by omega) (by omega)
  have l2 := two_list (absZ z % 60) (by omega) (by omega)
  have l3 := two_list h b1 (by omega)
  have l4 := two_list mi b3 (by omega)
  have l5 := two_list s b5 (by omega)
  have l6 := four_list y (by omega) a2
  have hsg : (signB z).data.toList = [if z < 0 then 45 else 43] := by unfold signB; split <;> rfl
  obtain ⟨dc, dp, hpl, hpd⟩ : ∃ (dc : UInt8) (dp : List UInt8), (plainP d).data.toList = dc :: dp ∧ (dc :: dp).all isDig = true := by
    have hpl := plain_list d a5 (by omega)
    by_cases h10 : d < 10
    · rw [if_pos h10] at hpl
      exact ⟨_, _, hpl, by simp only [List.all_cons, List.all_nil, Bool.and_true]; exact dgB_dig _ (by omega) (by omega)⟩
    · rw [if_neg h10] at hpl
      exact ⟨_, _, hpl, by simp only [List.all_cons, List.all_nil, Bool.and_true, Bool.and_eq_true]; exact ⟨dgB_dig _ (by omega) (by omega), dgB_dig _ (by omega) (by omega)⟩⟩
  have hz5 : (signB z ++ twoP (absZ z / 60) ++ twoP (absZ z % 60)).data.toList = (if z < 0 then 45 else 43) :: [dgB (absZ z / 60 / 10), dgB (absZ z / 60 % 10), dgB (absZ z % 60 / 10), dgB (absZ z % 60 % 10)] := by
    rw [app_list, app_list, l1, l2, hsg]; rfl
  have hS : (headerT y m d h mi s z).data.toList = wa :: [wb, wc] ++ (44 :: ([32] ++ (dc :: dp ++ ([32] ++ (ma :: [mb, mc] ++ ([32] ++ (dgB (y / 100 / 10) :: [dgB (y / 100 % 10), dgB (y % 100 / 10), dgB (y % 100 % 10)] ++ ([32] ++ (dgB (h / 10) :: [dgB (h % 10)] ++ (58 :: (dgB (mi / 10) :: [dgB (mi % 10)] ++ (58 :: (dgB (s / 10) :: [dgB (s % 10)] ++ ([32] ++ ((if z < 0 then 45 else 43) :: [dgB (absZ z / 60 / 10), dgB (absZ z / 60 % 10), dgB (absZ z % 60 / 10), dgB (absZ z % 60 % 10)] ++ []))))))))))))))) := by
    unfold headerT
    rw [clock_open]
    unfold clockT
    simp only [app_list, hw, hm, l1, l2, l3, l4, l5, l6, hsg, hpl]
    simp
  have hsize : (headerT y m d h mi s z).size ≤ 140737488351232 := by
    have hp := plainP_size d
    have h1 := week_size (weekP7 y m d h mi s z).toNat (by omega)
    have h2 := month_size (m - 1).toNat (by omega)
    have h3 := fourP_size y
    have h4 := clockP_size h mi s z
    have e1 : (⟨#[44, 32]⟩ : ByteArray).size = 2 := rfl
    have e2 : (⟨#[32]⟩ : ByteArray).size = 1 := rfl
    unfold headerT
    simp only [ByteArray.size_append]
    omega
  generalize hT : headerT y m d h mi s z = T at *
  clear hT
  have d9 : ∀ x : Int, 0 ≤ x → x ≤ 9 → isDig (dgB x) = true := dgB_dig
  have q58 : isDig 58 = false := by decide
  have q32 : isDig 32 = false := by decide
  obtain ⟨i1, e1, D1, s1⟩ := n_let T 0 [] (weekL.getD (weekP7 y m d h mi s z).toNat ⟨#[]⟩) wa [wb, wc] _ (by omega) (.inl rfl) hw hS hwl (head_not (by decide))
  obtain ⟨i2, e2, D2, s2⟩ := n_comma T i1 _ s1 D1
  obtain ⟨i3, e3, D3, s3⟩ := n_dig T i2 [32] (plainP d) dc dp _ s2 (.inr rfl) hpl D2 hpd (head_not q32)
  obtain ⟨i4, e4, D4, s4⟩ := n_let T i3 [32] (monthL.getD (m - 1).toNat ⟨#[]⟩) ma [mb, mc] _ s3 (.inr rfl) hm D3 hml (head_not (by decide))
  obtain ⟨i5, e5, D5, s5⟩ := n_dig T i4 [32] (fourP y) _ _ _ s4 (.inr rfl) l6 D4 (by simp only [List.all_cons, List.all_nil, Bool.and_true, Bool.and_eq_true]; exact ⟨d9 _ (by omega) (by omega), d9 _ (by omega) (by omega), d9 _ (by omega) (by omega), d9 _ (by omega) (by omega)⟩) (head_not q32)
  obtain ⟨i6, e6, D6, s6⟩ := n_dig T i5 [32] (twoP h) _ _ _ s5 (.inr rfl) l3 D5 (by simp only [List.all_cons, List.all_nil, Bool.and_true, Bool.and_eq_true]; exact ⟨d9 _ (by omega) (by omega), d9 _ (by omega) (by omega)⟩) (head_not q58)
  obtain ⟨i7, e7, D7, s7⟩ := n_colon T i6 _ s6 D6
  obtain ⟨i8, e8, D8, s8⟩ := n_dig T i7 [] (twoP mi) _ _ _ s7 (.inl rfl) l4 D7 (by simp only [List.all_cons, List.all_nil, Bool.and_true, Bool.and_eq_true]; exact ⟨d9 _ (by omega) (by omega), d9 _ (by omega) (by omega)⟩) (head_not q58)
  obtain ⟨i9, e9, D9, s9⟩ := n_colon T i8 _ s8 D8
  obtain ⟨i10, e10, D10, s10⟩ := n_dig T i9 [] (twoP s) _ _ _ s9 (.inl rfl) l5 D9 (by simp only [List.all_cons, List.all_nil, Bool.and_true, Bool.and_eq_true]; exact ⟨d9 _ (by omega) (by omega), d9 _ (by omega) (by omega)⟩) (head_not q32)
  obtain ⟨i11, e11, D11, s11⟩ := n_sign T i10 (signB z ++ twoP (absZ z / 60) ++ twoP (absZ z % 60)) _ _ [] s10 hz5 D10 (by split <;> simp) (by simp only [List.all_cons, List.all_nil, Bool.and_true, Bool.and_eq_true]; exact ⟨d9 _ (by omega) (by omega), d9 _ (by omega) (by omega), d9 _ (by omega) (by omega), d9 _ (by omega) (by omega)⟩) (by simp) (fun _ _ e => by cases e)
  have e12 := next_end T i11 s11 D11
  have q1 : hq1 T = (i1, 1, weekL.getD (weekP7 y m d h mi s z).toNat ⟨#[]⟩) := e1
  have n1 : nx T (hq1 T) = (i2, 4, ⟨#[44]⟩) := by rw [q1]; exact e2
  have q2 : hq2 T = (i3, 2, plainP d) := by unfold hq2 weekS; rw [if_pos (by rw [q1]), n1]; exact e3
  have q3 : hq3 T = (i4, 1, monthL.getD (m - 1).toNat ⟨#[]⟩) := by unfold hq3; rw [q2]; exact e4
  have q4 : hq4 T = (i5, 2, fourP y) := by unfold hq4; rw [q3]; exact e5
  have q5 : hq5 T = (i6, 2, twoP h) := by unfold hq5; rw [q4]; exact e6
  have q6 : hq6 T = (i7, 5, ⟨#[58]⟩) := by unfold hq6; rw [q5]; exact e7
  have q7 : hq7 T = (i8, 2, twoP mi) := by unfold hq7; rw [q6]; exact e8
  have q8 : hq8 T = (i9, 5, ⟨#[58]⟩) := by unfold hq8; rw [q7]; exact e9
  have n8 : nx T (hq8 T) = (i10, 2, twoP s) := by rw [q8]; exact e10
  have q9 : hq9 T = (i11, 3, signB z ++ twoP (absZ z / 60) ++ twoP (absZ z % 60)) := by unfold hq9 secondS; rw [if_pos (by rw [q8]), n8]; exact e11
  have q10 : hq10 T = (i11, 0, ⟨#[]⟩) := by unfold hq10 zoneCS; rw [if_pos (by rw [q9]; exact .inl rfl), q9]; exact e12
  have v1 : weekP T (hq1 T) = true := by unfold weekP; rw [if_pos (by rw [q1]), n1, q1]; simp only; rw [hwp, decide_eq_true (by omega)]; rfl
  have sh : ∀ (j : Nat) (t : ByteArray) (n most : Int), digitsP t = (n, true) → t.size ≤ 2 → n ≤ most → shortP most (j, 2, t) = (n, true) := by
    intro j t n most h1 h2 h3
    unfold shortP
    simp only [h1]
    rw [decide_eq_true h2, decide_eq_true h3]
    rfl
  have v2 : shortP 99 (hq2 T) = (d, true) := by rw [q2]; exact sh _ _ _ _ (digits_plain d a5 (by omega)) (by have := plainP_size d; omega) (by omega)
  have v3 : monthP (hq3 T) = (m, true) := by
    unfold monthP
    rw [if_pos (by rw [q3]), q3]
    simp only
    rw [hmp, decide_eq_true (by omega)]
    simp only [Prod.mk.injEq, and_true]
    omega
  have v4 : yearP (hq4 T) = (y, true) := by
    unfold yearP
    rw [q4]
    simp only [digits_four y (by omega) a2, fourP_size]
    simp
  have v5 : shortP 23 (hq5 T) = (h, true) := by rw [q5]; exact sh _ _ _ _ (digits_two h b1 (by omega)) (by rw [twoP_size]; exact Nat.le_refl _) b2
  have v7 : shortP 59 (hq7 T) = (mi, true) := by rw [q7]; exact sh _ _ _ _ (digits_two mi b3 (by omega)) (by rw [twoP_size]; exact Nat.le_refl _) b4
  have v8 : secondP T (hq8 T) = (s, true) := by
    have := sh i10 (twoP s) s 60 (digits_two s b5 (by omega)) (by rw [twoP_size]; exact Nat.le_refl _) (by omega)
    unfold secondP
    rw [if_pos (by rw [q8]), n8, this]
    simp only
    rw [if_neg (by omega)]
  have v9 : zoneCP (hq9 T) = (z, true) := by unfold zoneCP; rw [if_pos (by rw [q9]), q9]; exact zone_back z b7 b8
  have hok : headOk T = true := by
    unfold headOk headB
    rw [v1, v2, v3, v4, v5, v7, v8, v9, q6, q10]
    rfl
  unfold moment_ReadHeader.f
  rw [if_pos hsize, v4, v3, v2, v5, v7, v8, v9, hok, read_f]
  unfold toldP
  simp only
  rw [if_pos (by first | rfl | trivial), if_pos hd]
end Go.Proofs.YtjlchnmpebdggaaDoor.Mo
end
