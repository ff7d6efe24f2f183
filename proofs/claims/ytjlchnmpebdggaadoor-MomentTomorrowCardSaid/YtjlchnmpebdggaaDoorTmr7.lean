import Derived.Test.YtjlchnmpebdggaaDoorTmr6
import Derived.Laws.Rows
import Derived.BigRegion
import Derived.Test.YtjlchnmpebdggaaDoorTmr3
import Derived.Deep.QuietTactic
import Derived.BigQuiet
import Derived.IntWalk
import Derived.Test.YtjlchnmpebdggaaDoorTmr5
section
namespace Go.Proofs.YtjlchnmpebdggaaDoor.Mo
open Go.RowKit Go.Proofs.YtjlchnmpebdggaaDoorW.PrintWords
def OkQ (s : ByteArray) (q : St) : Prop := q.1 ≤ s.size ∧ q.2.2.size ≤ s.size
theorem okq_nx {s : ByteArray} {q : St} (h : OkQ s q) : OkQ s (nx s q) := ⟨nx_le s q h.1, nx_text s q⟩
theorem okq_week {s : ByteArray} {q : St} (h : OkQ s q) : OkQ s (weekS s q) := by
  unfold weekS; split
  · exact okq_nx (okq_nx h)
  · exact h
theorem okq_second {s : ByteArray} {q : St} (h : OkQ s q) : OkQ s (secondS s q) := by
  unfold secondS; split
  · exact okq_nx (okq_nx h)
  · exact h
def hq1 (s : ByteArray) : St := nx s (0, 0, ⟨#[]⟩)
def hq2 (s : ByteArray) : St := weekS s (hq1 s)
def hq3 (s : ByteArray) : St := nx s (hq2 s)
def hq4 (s : ByteArray) : St := nx s (hq3 s)
def hq5 (s : ByteArray) : St := nx s (hq4 s)
def hq6 (s : ByteArray) : St := nx s (hq5 s)
def hq7 (s : ByteArray) : St := nx s (hq6 s)
def hq8 (s : ByteArray) : St := nx s (hq7 s)
def hq9 (s : ByteArray) : St := secondS s (hq8 s)
def hq10 (s : ByteArray) : St := zoneCS s (hq9 s)
def headB (s : ByteArray) : List Bool := [weekP s (hq1 s), (shortP 99 (hq2 s)).2, (monthP (hq3 s)).2, (yearP (hq4 s)).2, (shortP 23 (hq5 s)).2, (hq6 s).2.1 == 5, (shortP 59 (hq7 s)).2, (secondP s (hq8 s)).2]
def headOk (s : ByteArray) : Bool := ((zoneCP (hq9 s)).2 && (headB s).all id) && (hq10 s).2.1 == 0
def moment_ReadHeader.f (s : ByteArray) : Option (Int × Int × Int × Int × Int × Int × Int × Int) :=
  if s.size ≤ 140737488351232 then moment_read.f (yearP (hq4 s)).1 (monthP (hq3 s)).1 (shortP 99 (hq2 s)).1 (shortP 23 (hq5 s)).1 (shortP 59 (hq7 s)).1 (secondP s (hq8 s)).1 (zoneCP (hq9 s)).1 (headOk s) else none
def zeros7 : Array Value := #[.int .i64 0, .int .i64 0, .int .i64 0, .int .i64 0, .int .i64 0, .int .i64 0, .int .i64 0]
theorem curS_lt {c t : Nat} {s : ByteArray} {q : St} {w : World} (h : CurS c t s q w) : c < w.heap.size := by unfold CurS Cur at h; exact blk_lt h
structure RH (w : World) (R C M K : Nat) (s : ByteArray) (q : St) (mv kv : Array Value) (W : World) : Prop where
  cur : CurS C 61 s q W
  res : W.heap[R]? = some (.cells zeros7 23 (0, 0))
  mom : W.heap[M]? = some (.cells mv 23 (0, 0))
  oks : W.heap[K]? = some (.cells kv 62 (0, 0))
  below : Below w.heap.size w W
  rc : R < C
  cm : C < M
  lt3 : M < K
  wr : w.heap.size ≤ R
theorem RH.turn {w W W' : World} {R C M K : Nat} {s : ByteArray} {q q' : St} {mv kv : Array Value} (h : RH w R C M K s q mv kv W) (hc : CurS C 61 s q' W') (hT : Turned C W W') : RH w R C M K s q' mv kv W' :=
  ⟨hc, (hT.other R (blk_lt h.res) (Nat.ne_of_lt h.rc)).trans h.res, (hT.other M (blk_lt h.mom) (Nat.ne_of_gt h.cm)).trans h.mom, (hT.other K (blk_lt h.oks) (Nat.ne_of_gt (Nat.lt_trans h.cm h.lt3))).trans h.oks,
    hT.below _ _ h.below (Nat.le_of_lt (Nat.lt_of_le_of_lt h.wr h.rc)) h.below.size, h.rc, h.cm, h.lt3, h.wr⟩
theorem RH.mset {w W : World} {R C M K : Nat} {s : ByteArray} {q : St} {mv kv : Array Value} (h : RH w R C M K s q mv kv W) (j : Nat) (v : Value) (mv' : Array Value) (e : mv.setIfInBounds j v = mv') : RH w R C M K s q mv' kv (W.setCell ⟨M, j, none⟩ v) :=
  have h1 := h.rc
  have h2 := h.cm
  have h3 := h.lt3
  have h4 := h.wr
  ⟨(heap_setCell_other _ _ _ _ (Nat.ne_of_lt h2)).trans h.cur, (heap_setCell_other _ _ _ _ (Nat.ne_of_lt (Nat.lt_trans h1 h2))).trans h.res, blk_put h.mom j v e, (heap_setCell_other _ _ _ _ (Nat.ne_of_gt h3)).trans h.oks, h.below.setCell (p := ⟨M, j, none⟩) (by show w.heap.size ≤ M; omega) v, h1, h2, h3, h4⟩
theorem RH.kset {w W : World} {R C M K : Nat} {s : ByteArray} {q : St} {mv kv : Array Value} (h : RH w R C M K s q mv kv W) (j : Nat) (v : Value) (kv' : Array Value) (e : kv.setIfInBounds j v = kv') : RH w R C M K s q mv kv' (W.setCell ⟨K, j, none⟩ v) :=
  have h1 := h.rc
  have h2 := h.cm
  have h3 := h.lt3
  have h4 := h.wr
  ⟨(heap_setCell_other _ _ _ _ (Nat.ne_of_lt (Nat.lt_trans h2 h3))).trans h.cur, (heap_setCell_other _ _ _ _ (Nat.ne_of_lt (Nat.lt_trans h1 (Nat.lt_trans h2 h3)))).trans h.res, (heap_setCell_other _ _ _ _ (Nat.ne_of_lt h3)).trans h.mom, blk_put h.oks j v e, h.below.setCell (p := ⟨K, j, none⟩) (by show w.heap.size ≤ K; omega) v, h1, h2, h3, h4⟩
theorem RH.mcell {w W : World} {R C M K : Nat} {s : ByteArray} {q : St} {mv kv : Array Value} (h : RH w R C M K s q mv kv W) (j : Nat) : W.cell? ⟨M, j, none⟩ = mv[j]? ∧ W.frozen? ⟨M, j, none⟩ = false := ⟨blk_cell h.mom j, blk_frozen h.mom j⟩
theorem RH.kcell {w W : World} {R C M K : Nat} {s : ByteArray} {q : St} {mv kv : Array Value} (h : RH w R C M K s q mv kv W) (j : Nat) : W.cell? ⟨K, j, none⟩ = kv[j]? ∧ W.frozen? ⟨K, j, none⟩ = false := ⟨blk_cell h.oks j, blk_frozen h.oks j⟩
theorem bools_index (w : World) (b0 b1 b2 b3 b4 b5 b6 b7 : Bool) (n : Nat) (h : n < 8) : (Instr.index 62 (.agg #[.bool b0, .bool b1, .bool b2, .bool b3, .bool b4, .bool b5, .bool b6, .bool b7]) (.int .i64 (n : Int))).run Tryd.prog w = .ok (.bool ([b0, b1, b2, b3, b4, b5, b6, b7].getD n false)) w := by
  have : n = 0 ∨ n = 1 ∨ n = 2 ∨ n = 3 ∨ n = 4 ∨ n = 5 ∨ n = 6 ∨ n = 7 := by omega
  rcases this with rfl | rfl | rfl | rfl | rfl | rfl | rfl | rfl <;> (show _ = _; kernel_rfl)
set_option maxHeartbeats 4000000 in
set_option maxRecDepth 100000 in
theorem readHeader_calls (s : ByteArray) (r1 r2 r3 r4 r5 r6 r7 r8 : Int) (w : World) (hs : s.size ≤ 140737488351232)
    (h : moment_read.f (yearP (hq4 s)).1 (monthP (hq3 s)).1 (shortP 99 (hq2 s)).1 (shortP 23 (hq5 s)).1 (shortP 59 (hq7 s)).1 (secondP s (hq8 s)).1 (zoneCP (hq9 s)).1 (headOk s) = some (r1, r2, r3, r4, r5, r6, r7, r8)) (hL : Laid w) :
    Calls Tryd.prog 27 #[.string s] w fun e w' => e = .returned (.tuple #[.agg #[.int .i64 r1, .int .i64 r2, .int .i64 r3, .int .i64 r4, .int .i64 r5, .int .i64 r6, .int .i64 r7], .int .i64 r8]) ∧ Below w.heap.size w w' := by
  have O1 := Lib.hid (show OkQ s (hq1 s) from okq_nx ⟨Nat.zero_le _, Nat.zero_le _⟩)
  have O2 := Lib.hid (show OkQ s (hq2 s) from okq_week O1.out)
  have O3 := Lib.hid (show OkQ s (hq3 s) from okq_nx O2.out)
  have O4 := Lib.hid (show OkQ s (hq4 s) from okq_nx O3.out)
  have O5 := Lib.hid (show OkQ s (hq5 s) from okq_nx O4.out)
  have O6 := Lib.hid (show OkQ s (hq6 s) from okq_nx O5.out)
  have O7 := Lib.hid (show OkQ s (hq7 s) from okq_nx O6.out)
  have O8 := Lib.hid (show OkQ s (hq8 s) from okq_nx O7.out)
  have O9 := Lib.hid (show OkQ s (hq9 s) from okq_second O8.out)
  have HR := Lib.hid h
  have HL := Lib.hid hL
  clear h hL
  go_enter Tryd.func27, Tryd.ntmps27
  go_wp2_with fail
  have hcur : CurS (w.heap.size + 1) 61 s (0, 0, ⟨#[]⟩) ((w.alloc (.cells zeros7 23)).alloc (.cells #[.string s, .int .i64 0, .int .i64 0, .string ⟨#[]⟩] 61)) := by
    have := heap_alloc_new (w.alloc (.cells zeros7 23)) (.cells #[.string s, .int .i64 0, .int .i64 0, .string ⟨#[]⟩] 61)
    rw [show (w.alloc (.cells zeros7 23)).heap.size = w.heap.size + 1 from by simp] at this
    exact this
  refine (nx_calls (w.heap.size + 1) 61 s (0, 0, ⟨#[]⟩) _ hs (Nat.zero_le _) hcur).mono ?_
  rintro e w1 ⟨rfl, hc1, ht1⟩
  have hres1 : w1.heap[w.heap.size]? = some (.cells zeros7 23 (0, 0)) := by
    rw [ht1.other w.heap.size (by simp; omega) (by omega), Below.heap_alloc _ _ _ (by simp)]; exact heap_alloc_new _ _
  have hb1 : Below w.heap.size w w1 := ht1.below _ _ (below_alloc (below_alloc (Below.refl _ w) _) _) (by omega) (by simp; omega)
  have hlt1 := blk_lt hc1
  have HR1 := Lib.hid hres1
  have HB1 := Lib.hid hb1
  have HC1 := Lib.hid hc1
  clear hcur ht1 hres1 hb1 hc1
  go_wp2_with fail
  have H : Hid (RH w w.heap.size (w.heap.size + 1) w1.heap.size (w1.heap.size + 1) s (hq1 s) #[.int .i64 0, .int .i64 0, .int .i64 0, .int .i64 0, .int .i64 0, .int .i64 0, .int .i64 0] #[.bool false, .bool false, .bool false, .bool false, .bool false, .bool false, .bool false, .bool false] ((w1.alloc (.cells #[.int .i64 0, .int .i64 0, .int .i64 0, .int .i64 0, .int .i64 0, .int .i64 0, .int .i64 0] 23)).alloc (.cells #[.bool false, .bool false, .bool false, .bool false, .bool false, .bool false, .bool false, .bool false] 62))) := Lib.hid (by
    refine ⟨?_, ?_, ?_, ?_, below_alloc (below_alloc HB1.out _) _, by omega, by omega, by omega, Nat.le_refl _⟩
    · exact (Below.heap_alloc _ _ _ (by simp; omega)).trans ((Below.heap_alloc _ _ _ hlt1).trans HC1.out)
    · exact (Below.heap_alloc _ _ _ (by simp; omega)).trans ((Below.heap_alloc _ _ _ (by omega)).trans HR1.out)
    · exact (Below.heap_alloc _ _ _ (by simp)).trans (heap_alloc_new _ _)
    · have := heap_alloc_new (w1.alloc (.cells #[.int .i64 0, .int .i64 0, .int .i64 0, .int .i64 0, .int .i64 0, .int .i64 0, .int .i64 0] 23)) (.cells #[.bool false, .bool false, .bool false, .bool false, .bool false, .bool false, .bool false, .bool false] 62)
      rw [show (w1.alloc (.cells #[.int .i64 0, .int .i64 0, .int .i64 0, .int .i64 0, .int .i64 0, .int .i64 0, .int .i64 0] 23)).heap.size = w1.heap.size + 1 from by simp] at this
      exact this)
  clear HR1 HB1 HC1
  generalize (w1.alloc (Obj.cells #[.int .i64 0, .int .i64 0, .int .i64 0, .int .i64 0, .int .i64 0, .int .i64 0, .int .i64 0] 23)).alloc (Obj.cells #[.bool false, .bool false, .bool false, .bool false, .bool false, .bool false, .bool false, .bool false] 62) = W at *
  generalize w.heap.size + 1 = C at *
  generalize w1.heap.size = M at *
  generalize M + 1 = K at *
  refine (week_calls C 61 s (hq1 s) _ hs O1.out.1 (Nat.le_trans O1.out.2 hs) H.out.cur (curS_lt H.out.cur)).mono ?_
  rintro e w2 ⟨rfl, hc, ht⟩
  have H2 := Lib.hid (RH.turn (q' := hq2 s) H.out hc ht)
  clear hc ht H
  obtain ⟨ck, zk⟩ := H2.out.kcell 0
  replace ck : w2.cell? ⟨K, 0, none⟩ = some (.bool false) := ck
  obtain ⟨B0, eB0⟩ : ∃ x, weekP s (hq1 s) = x := ⟨_, rfl⟩
  rw [eB0]
  have EB0 := Lib.hid eB0
  clear eB0
  go_wp2_with fail
  have H := Lib.hid (H2.out.kset 0 (.bool B0) #[.bool B0, .bool false, .bool false, .bool false, .bool false, .bool false, .bool false, .bool false] rfl)
  clear H2 ck zk
  generalize w2.setCell ⟨K, 0, none⟩ (.bool B0) = W at *
  refine (short_calls C 61 s (hq2 s) 99 _ hs O2.out.1 H.out.cur).mono ?_
  rintro e w3 ⟨rfl, hc, ht⟩
  have H3 := Lib.hid (RH.turn (q' := hq3 s) H.out hc ht)
  clear hc ht H
  obtain ⟨cm, zm⟩ := H3.out.mcell 2
  obtain ⟨ck, zk⟩ := H3.out.kcell 1
  replace cm : w3.cell? ⟨M, 2, none⟩ = some (.int .i64 0) := cm
  replace ck : w3.cell? ⟨K, 1, none⟩ = some (.bool false) := ck
  obtain ⟨D, eD⟩ : ∃ x, (shortP 99 (hq2 s)).1 = x := ⟨_, rfl⟩
  obtain ⟨B1, eB1⟩ : ∃ x, (shortP 99 (hq2 s)).2 = x := ⟨_, rfl⟩
  rw [eD, eB1]
  have ED := Lib.hid eD
  have EB1 := Lib.hid eB1
  clear eD eB1
  go_wp2_with fail
  have H := Lib.hid ((H3.out.mset 2 (.int .i64 D) #[.int .i64 0, .int .i64 0, .int .i64 D, .int .i64 0, .int .i64 0, .int .i64 0, .int .i64 0] rfl).kset 1 (.bool B1) #[.bool B0, .bool B1, .bool false, .bool false, .bool false, .bool false, .bool false, .bool false] rfl)
  clear H3 cm zm ck zk
  generalize (w3.setCell ⟨M, 2, none⟩ (.int .i64 D)).setCell ⟨K, 1, none⟩ (.bool B1) = W at *
  refine (month_calls C 61 s (hq3 s) _ hs O3.out.1 (Nat.le_trans O3.out.2 hs) H.out.cur (curS_lt H.out.cur)).mono ?_
  rintro e w4 ⟨rfl, hc, ht⟩
  have H4 := Lib.hid (RH.turn (q' := hq4 s) H.out hc ht)
  clear hc ht H
  obtain ⟨cm, zm⟩ := H4.out.mcell 1
  obtain ⟨ck, zk⟩ := H4.out.kcell 2
  replace cm : w4.cell? ⟨M, 1, none⟩ = some (.int .i64 0) := cm
  replace ck : w4.cell? ⟨K, 2, none⟩ = some (.bool false) := ck
  obtain ⟨Mo, eMo⟩ : ∃ x, (monthP (hq3 s)).1 = x := ⟨_, rfl⟩
  obtain ⟨B2, eB2⟩ : ∃ x, (monthP (hq3 s)).2 = x := ⟨_, rfl⟩
  rw [eMo, eB2]
  have EMo := Lib.hid eMo
  have EB2 := Lib.hid eB2
  clear eMo eB2
  go_wp2_with fail
  have H := Lib.hid ((H4.out.mset 1 (.int .i64 Mo) #[.int .i64 0, .int .i64 Mo, .int .i64 D, .int .i64 0, .int .i64 0, .int .i64 0, .int .i64 0] rfl).kset 2 (.bool B2) #[.bool B0, .bool B1, .bool B2, .bool false, .bool false, .bool false, .bool false, .bool false] rfl)
  clear H4 cm zm ck zk
  generalize (w4.setCell ⟨M, 1, none⟩ (.int .i64 Mo)).setCell ⟨K, 2, none⟩ (.bool B2) = W at *
  refine (year_calls C 61 s (hq4 s) _ hs O4.out.1 H.out.cur).mono ?_
  rintro e w5 ⟨rfl, hc, ht⟩
  have H5 := Lib.hid (RH.turn (q' := hq5 s) H.out hc ht)
  clear hc ht H
  obtain ⟨cm, zm⟩ := H5.out.mcell 0
  obtain ⟨ck, zk⟩ := H5.out.kcell 3
  replace cm : w5.cell? ⟨M, 0, none⟩ = some (.int .i64 0) := cm
  replace ck : w5.cell? ⟨K, 3, none⟩ = some (.bool false) := ck
  obtain ⟨Y, eY⟩ : ∃ x, (yearP (hq4 s)).1 = x := ⟨_, rfl⟩
  obtain ⟨B3, eB3⟩ : ∃ x, (yearP (hq4 s)).2 = x := ⟨_, rfl⟩
  rw [eY, eB3]
  have EY := Lib.hid eY
  have EB3 := Lib.hid eB3
  clear eY eB3
  go_wp2_with fail
  have H := Lib.hid ((H5.out.mset 0 (.int .i64 Y) #[.int .i64 Y, .int .i64 Mo, .int .i64 D, .int .i64 0, .int .i64 0, .int .i64 0, .int .i64 0] rfl).kset 3 (.bool B3) #[.bool B0, .bool B1, .bool B2, .bool B3, .bool false, .bool false, .bool false, .bool false] rfl)
  clear H5 cm zm ck zk
  generalize (w5.setCell ⟨M, 0, none⟩ (.int .i64 Y)).setCell ⟨K, 3, none⟩ (.bool B3) = W at *
  refine (short_calls C 61 s (hq5 s) 23 _ hs O5.out.1 H.out.cur).mono ?_
  rintro e w6 ⟨rfl, hc, ht⟩
  have H6 := Lib.hid (RH.turn (q' := hq6 s) H.out hc ht)
  clear hc ht H
  obtain ⟨cm, zm⟩ := H6.out.mcell 3
  obtain ⟨ck, zk⟩ := H6.out.kcell 4
  replace cm : w6.cell? ⟨M, 3, none⟩ = some (.int .i64 0) := cm
  replace ck : w6.cell? ⟨K, 4, none⟩ = some (.bool false) := ck
  obtain ⟨Hh, eHh⟩ : ∃ x, (shortP 23 (hq5 s)).1 = x := ⟨_, rfl⟩
  obtain ⟨B4, eB4⟩ : ∃ x, (shortP 23 (hq5 s)).2 = x := ⟨_, rfl⟩
  rw [eHh, eB4]
  have EHh := Lib.hid eHh
  have EB4 := Lib.hid eB4
  clear eHh eB4
  go_wp2_with fail
  have H := Lib.hid ((H6.out.mset 3 (.int .i64 Hh) #[.int .i64 Y, .int .i64 Mo, .int .i64 D, .int .i64 Hh, .int .i64 0, .int .i64 0, .int .i64 0] rfl).kset 4 (.bool B4) #[.bool B0, .bool B1, .bool B2, .bool B3, .bool B4, .bool false, .bool false, .bool false] rfl)
  clear H6 cm zm ck zk
  generalize (w6.setCell ⟨M, 3, none⟩ (.int .i64 Hh)).setCell ⟨K, 4, none⟩ (.bool B4) = W at *
  refine (sign_calls C 61 s (hq6 s) 5 _ hs O6.out.1 H.out.cur).mono ?_
  rintro e w7 ⟨rfl, hc, ht⟩
  have H7 := Lib.hid (RH.turn (q' := hq7 s) H.out hc ht)
  clear hc ht H
  obtain ⟨ck, zk⟩ := H7.out.kcell 5
  replace ck : w7.cell? ⟨K, 5, none⟩ = some (.bool false) := ck
  obtain ⟨B5, eB5⟩ : ∃ x, ((hq6 s).2.1 == 5) = x := ⟨_, rfl⟩
  rw [eB5]
  have EB5 := Lib.hid eB5
  clear eB5
  go_wp2_with fail
  have H := Lib.hid (H7.out.kset 5 (.bool B5) #[.bool B0, .bool B1, .bool B2, .bool B3, .bool B4, .bool B5, .bool false, .bool false] rfl)
  clear H7 ck zk
  generalize w7.setCell ⟨K, 5, none⟩ (.bool B5) = W at *
  refine (short_calls C 61 s (hq7 s) 59 _ hs O7.out.1 H.out.cur).mono ?_
  rintro e w8 ⟨rfl, hc, ht⟩
  have H8 := Lib.hid (RH.turn (q' := hq8 s) H.out hc ht)
  clear hc ht H
  obtain ⟨cm, zm⟩ := H8.out.mcell 4
  obtain ⟨ck, zk⟩ := H8.out.kcell 6
  replace cm : w8.cell? ⟨M, 4, none⟩ = some (.int .i64 0) := cm
  replace ck : w8.cell? ⟨K, 6, none⟩ = some (.bool false) := ck
  obtain ⟨Mi, eMi⟩ : ∃ x, (shortP 59 (hq7 s)).1 = x := ⟨_, rfl⟩
  obtain ⟨B6, eB6⟩ : ∃ x, (shortP 59 (hq7 s)).2 = x := ⟨_, rfl⟩
  rw [eMi, eB6]
  have EMi := Lib.hid eMi
  have EB6 := Lib.hid eB6
  clear eMi eB6
  go_wp2_with fail
  have H := Lib.hid ((H8.out.mset 4 (.int .i64 Mi) #[.int .i64 Y, .int .i64 Mo, .int .i64 D, .int .i64 Hh, .int .i64 Mi, .int .i64 0, .int .i64 0] rfl).kset 6 (.bool B6) #[.bool B0, .bool B1, .bool B2, .bool B3, .bool B4, .bool B5, .bool B6, .bool false] rfl)
  clear H8 cm zm ck zk
  generalize (w8.setCell ⟨M, 4, none⟩ (.int .i64 Mi)).setCell ⟨K, 6, none⟩ (.bool B6) = W at *
  refine (second_calls C 61 s (hq8 s) _ hs O8.out.1 H.out.cur).mono ?_
  rintro e w9 ⟨rfl, hc, ht⟩
  have H9 := Lib.hid (RH.turn (q' := hq9 s) H.out hc ht)
  clear hc ht H
  obtain ⟨cm, zm⟩ := H9.out.mcell 5
  obtain ⟨ck, zk⟩ := H9.out.kcell 7
  replace cm : w9.cell? ⟨M, 5, none⟩ = some (.int .i64 0) := cm
  replace ck : w9.cell? ⟨K, 7, none⟩ = some (.bool false) := ck
  obtain ⟨Se, eSe⟩ : ∃ x, (secondP s (hq8 s)).1 = x := ⟨_, rfl⟩
  obtain ⟨B7, eB7⟩ : ∃ x, (secondP s (hq8 s)).2 = x := ⟨_, rfl⟩
  rw [eSe, eB7]
  have ESe := Lib.hid eSe
  have EB7 := Lib.hid eB7
  clear eSe eB7
  go_wp2_with fail
  have H := Lib.hid ((H9.out.mset 5 (.int .i64 Se) #[.int .i64 Y, .int .i64 Mo, .int .i64 D, .int .i64 Hh, .int .i64 Mi, .int .i64 Se, .int .i64 0] rfl).kset 7 (.bool B7) #[.bool B0, .bool B1, .bool B2, .bool B3, .bool B4, .bool B5, .bool B6, .bool B7] rfl)
  clear H9 cm zm ck zk
  generalize (w9.setCell ⟨M, 5, none⟩ (.int .i64 Se)).setCell ⟨K, 7, none⟩ (.bool B7) = W at *
  refine (zoneC_calls C 61 s (hq9 s) _ hs O9.out.1 (Nat.le_trans O9.out.2 hs) H.out.cur (curS_lt H.out.cur)).mono ?_
  rintro e w10 ⟨rfl, hc, ht⟩
  have H10 := Lib.hid (RH.turn (q' := hq10 s) H.out hc ht)
  clear hc ht H
  obtain ⟨cm, zm⟩ := H10.out.mcell 6
  replace cm : w10.cell? ⟨M, 6, none⟩ = some (.int .i64 0) := cm
  obtain ⟨Z, eZ⟩ : ∃ x, (zoneCP (hq9 s)).1 = x := ⟨_, rfl⟩
  obtain ⟨BZ, eBZ⟩ : ∃ x, (zoneCP (hq9 s)).2 = x := ⟨_, rfl⟩
  rw [eZ, eBZ]
  have EZ := Lib.hid eZ
  have EBZ := Lib.hid eBZ
  clear eZ eBZ
  go_upto_region 15 with fail
  have H := Lib.hid (H10.out.mset 6 (.int .i64 Z) #[.int .i64 Y, .int .i64 Mo, .int .i64 D, .int .i64 Hh, .int .i64 Mi, .int .i64 Se, .int .i64 Z] rfl)
  clear H10 cm zm
  generalize w10.setCell ⟨M, 6, none⟩ (.int .i64 Z) = W at *
  go_wp2_with (refine wpList_load_row rfl 62 (.tmp 6) rfl K rfl 62 #[.bool B0, .bool B1, .bool B2, .bool B3, .bool B4, .bool B5, .bool B6, .bool B7] (0, 0) _ H.out.oks Tryd.underlying62 rfl (by kernel_rfl) ?_)
  have hBLs : [B0, B1, B2, B3, B4, B5, B6, B7].length = 8 := rfl
  have HX := Lib.hid (fun (W' : World) (n : Nat) (hn : n < 8) => bools_index W' B0 B1 B2 B3 B4 B5 B6 B7 n hn)
  obtain ⟨BL, hBL⟩ : ∃ BL, BL = [B0, B1, B2, B3, B4, B5, B6, B7] := ⟨_, rfl⟩
  rw [← hBL] at HX hBLs
  have HBL := Lib.hid hBL
  clear hBL
  go_loopw [8, 72] (fun v8 v72 wr => ∃ n : Nat, n ≤ 8 ∧ v72 = .int .i64 n ∧ v8 = .bool (BZ && (BL.take n).all id) ∧ wr = W) (fun _ v72 _ => 8 - (intOf v72).toNat)
  case atStart => exact ⟨0, by omega, rfl, by simp, rfl⟩
  case round =>
    obtain ⟨n, hn, rfl, rfl, rfl⟩ := hrel
    by_cases hlt : n < 8
    · have hix := fun W' => HX.out W' n hlt
      have hsn : Hid ((BZ && (BL.take (n + 1)).all id) = ((BZ && (BL.take n).all id) && BL.getD n false)) := Lib.hid (by
        rw [List.take_succ_eq_append_getElem (by omega), List.all_append, List.getD_eq_getElem?_getD, List.getElem?_eq_getElem (by omega)]
        simp [Bool.and_assoc])
      generalize (BZ && (BL.take n).all id) = p at *
      generalize BL.getD n false = X at *
      clear EB0 EB1 EB2 EB3 EB4 EB5 EB6 EB7 EY EMo ED EHh EMi ESe EZ EBZ O1 O2 O3 O4 O5 O6 O7 O8 O9 HX H HBL HR HL
      cases p with
      | true =>
        go_wp2
        go_roundw
        case rel => exact ⟨n + 1, by omega, by go_num, by rw [hsn.out]; rfl, trivial⟩
        case measure => simp [intOf]; omega
      | false =>
        go_wp2
        go_roundw
        case rel => exact ⟨n + 1, by omega, by go_num, by rw [hsn.out]; rfl, trivial⟩
        case measure => simp [intOf]; omega
    · obtain rfl : n = 8 := by omega
      have hall : BL.take 8 = BL := List.take_of_length_le (by omega)
      have hk := HR.out
      have hhead : headOk s = ((BZ && BL.all id) && (hq10 s).2.1 == 0) := by
        unfold headOk headB
        rw [EBZ.out, EB0.out, EB1.out, EB2.out, EB3.out, EB4.out, EB5.out, EB6.out, EB7.out, ← HBL.out]
      rw [hhead, EY.out, EMo.out, ED.out, EHh.out, EMi.out, ESe.out, EZ.out] at hk
      rw [hall]
      have HK := Lib.hid hk
      clear hk hhead hall hBLs HX
      obtain ⟨⟨c0, c1, c2, c3, c4, c5, c6⟩, _⟩ := cells7 H.out.mom
      obtain ⟨_, _, d2, _, _, _, _⟩ := cur4 H.out.cur
      have hlaid := Lib.hid (laid_below HL.out H.out.below)
      have HBE := Lib.hid H.out.below
      have HRES := Lib.hid H.out.res
      have hRlt := Lib.hid (blk_lt H.out.res)
      generalize (BZ && BL.all id) = right at *
      generalize (hq10 s).2.1 = kd at *
      clear O1 O2 O3 O4 O5 O6 O7 O8 O9 HR HL EY EMo ED EHh EMi ESe EZ EBZ EB0 EB1 EB2 EB3 EB4 EB5 EB6 EB7 HBL H
      cases right with
      | true =>
        have hq : (true && kd == 0) = (kd == 0) := Bool.true_and _
        rw [hq] at HK
        clear hq
        go_wp2_with fail
        go_region_with (go_at_call 60; refine (moment_read.calls Y Mo D Hh Mi Se Z (kd == 0) r1 r2 r3 r4 r5 r6 r7 r8 _ HK.out (laid_below hlaid.out (by repeat (first | (with_reducible exact Below.refl _ _) | apply below_drew | apply pw_below_drewN)))).mono ?_; rintro e w12 ⟨rfl, hb⟩; obtain ⟨⟨x0, x1, x2, x3, x4, x5, x6⟩, fz⟩ := cells7 (show w12.heap[w.heap.size]? = some (.cells #[.int .i64 0, .int .i64 0, .int .i64 0, .int .i64 0, .int .i64 0, .int .i64 0, .int .i64 0] 23 (0, 0)) from (hb.block w.heap.size (by exact hRlt.out)).trans HRES.out); have y0 := fz 0; have y1 := fz 1; have y2 := fz 2; have y3 := fz 3; have y4 := fz 4; have y5 := fz 5; have y6 := fz 6; clear fz; have HB := Lib.hid hb; clear hb)
        all_goals go_wp2
        all_goals
          have hr12 := (show w12.heap[w.heap.size]? = some (.cells #[.int .i64 0, .int .i64 0, .int .i64 0, .int .i64 0, .int .i64 0, .int .i64 0, .int .i64 0] 23 (0, 0)) from (HB.out.block w.heap.size (by exact hRlt.out)).trans HRES.out)
          have hbe : Below w.heap.size w w12 := below_step (by repeat (first | (with_reducible exact HBE.out) | (with_reducible apply below_drew) | (with_reducible apply pw_below_drewN) | exact HBE.out)) HB.out
          exact bodyPost_ret (results_ct rfl _ _ w.heap.size 23 #[.int .i64 r1, .int .i64 r2, .int .i64 r3, .int .i64 r4, .int .i64 r5, .int .i64 r6, .int .i64 r7] (0, 0) _ rfl (set7 hr12 _ _ _ _ _ _ _).1 Tryd.underlying23 rfl (by kernel_rfl)) rfl ⟨rfl, (set7 hr12 _ _ _ _ _ _ _).2 _ _ hbe (Nat.le_refl _)⟩
      | false =>
        have hq : (false && kd == 0) = false := rfl
        rw [hq] at HK
        clear hq
        go_wp2_with fail
        first | (go_region_with (go_at_call 60; refine (moment_read.calls Y Mo D Hh Mi Se Z false r1 r2 r3 r4 r5 r6 r7 r8 _ HK.out (laid_below hlaid.out (by repeat (first | (with_reducible exact Below.refl _ _) | apply below_drew | apply pw_below_drewN)))).mono ?_; rintro e w12 ⟨rfl, hb⟩; obtain ⟨⟨x0, x1, x2, x3, x4, x5, x6⟩, fz⟩ := cells7 (show w12.heap[w.heap.size]? = some (.cells #[.int .i64 0, .int .i64 0, .int .i64 0, .int .i64 0, .int .i64 0, .int .i64 0, .int .i64 0] 23 (0, 0)) from (hb.block w.heap.size (by exact hRlt.out)).trans HRES.out); have y0 := fz 0; have y1 := fz 1; have y2 := fz 2; have y3 := fz 3; have y4 := fz 4; have y5 := fz 5; have y6 := fz 6; clear fz; have HB := Lib.hid hb; clear hb)) | fail
        all_goals go_wp2
        all_goals
          have hr12 := (show w12.heap[w.heap.size]? = some (.cells #[.int .i64 0, .int .i64 0, .int .i64 0, .int .i64 0, .int .i64 0, .int .i64 0, .int .i64 0] 23 (0, 0)) from (HB.out.block w.heap.size (by exact hRlt.out)).trans HRES.out)
          have hbe : Below w.heap.size w w12 := below_step (by repeat (first | (with_reducible exact HBE.out) | (with_reducible apply below_drew) | (with_reducible apply pw_below_drewN) | exact HBE.out)) HB.out
          exact bodyPost_ret (results_ct rfl _ _ w.heap.size 23 #[.int .i64 r1, .int .i64 r2, .int .i64 r3, .int .i64 r4, .int .i64 r5, .int .i64 r6, .int .i64 r7] (0, 0) _ rfl (set7 hr12 _ _ _ _ _ _ _).1 Tryd.underlying23 rfl (by kernel_rfl)) rfl ⟨rfl, (set7 hr12 _ _ _ _ _ _ _).2 _ _ hbe (Nat.le_refl _)⟩
theorem moment_ReadHeader.calls (a0 : ByteArray) (r1 r2 r3 r4 r5 r6 r7 r8 : Int) (w : World) (h : moment_ReadHeader.f a0 = some (r1, r2, r3, r4, r5, r6, r7, r8)) (hL : Laid w) :
    Calls Tryd.prog 27 #[.string a0] w fun e w' => e = .returned (.tuple #[.agg #[.int .i64 r1, .int .i64 r2, .int .i64 r3, .int .i64 r4, .int .i64 r5, .int .i64 r6, .int .i64 r7], .int .i64 r8]) ∧ Below w.heap.size w w' := by
  unfold moment_ReadHeader.f at h
  by_cases hs : a0.size ≤ 140737488351232
  · rw [if_pos hs] at h
    exact readHeader_calls a0 r1 r2 r3 r4 r5 r6 r7 r8 w hs h hL
  · rw [if_neg hs] at h
    exact absurd h (by simp)
end Go.Proofs.YtjlchnmpebdggaaDoor.Mo
end
section
namespace Go.Proofs.YtjlchnmpebdggaaDoor.Mo
open Go.RowKit Go.Proofs.YtjlchnmpebdggaaDoorW.PrintWords
def clockT (h mi se zz : Int) (sign : ByteArray) : ByteArray := twoP h ++ ⟨#[58]⟩ ++ twoP mi ++ ⟨#[58]⟩ ++ twoP se ++ ⟨#[32]⟩ ++ sign ++ twoP (zz / 60) ++ twoP (zz % 60)
def clockP (h mi se z : Int) : ByteArray := if z < 0 then clockT h mi se (-z) ⟨#[45]⟩ else clockT h mi se z ⟨#[43]⟩
theorem two_calls (n : Int) (w : World) : Calls Tryd.prog 87 #[.int .i64 n] w fun e w' => e = .returned (.string (twoP n)) ∧ Below w.heap.size w w' := moment_two.calls n _ w (two_f n)
theorem clockT_size (h mi se zz : Int) (sign : ByteArray) (hs : sign.size = 1) : (clockT h mi se zz sign).size = 14 := by
  unfold clockT
  simp only [ByteArray.size_append, twoP_size, hs]
  rfl
theorem clockP_size (h mi se z : Int) : (clockP h mi se z).size = 14 := by
  unfold clockP; split <;> exact clockT_size _ _ _ _ _ rfl
set_option maxHeartbeats 4000000 in
set_option maxRecDepth 100000 in
theorem clock_calls (y mo d h mi se z : Int) (w : World) (h0 : -1439 ≤ z) (h1 : z ≤ 1439) :
    Calls Tryd.prog 64 #[.agg #[.int .i64 y, .int .i64 mo, .int .i64 d, .int .i64 h, .int .i64 mi, .int .i64 se, .int .i64 z]] w fun e w' => e = .returned (.string (clockP h mi se z)) ∧ Below w.heap.size w w' := by
  have t1 := two_calls h
  have t2 := two_calls mi
  have t3 := two_calls se
  have s1 := twoP_size h
  have s2 := twoP_size mi
  have s3 := twoP_size se
  by_cases hz : z < 0
  · skip
    have hp : clockP h mi se z = twoP h ++ ⟨#[58]⟩ ++ twoP mi ++ ⟨#[58]⟩ ++ twoP se ++ ⟨#[32]⟩ ++ ⟨#[45]⟩ ++ twoP ((-z) / 60) ++ twoP ((-z) % 60) := by unfold clockP; rw [if_pos hz]; rfl
    have d1 : decide (z < 0) = true := decide_eq_true hz
    have z0 : 0 ≤ (-z) := by omega
    have z1 : (-z) ≤ 1439 := by omega
    have t4 := two_calls ((-z) / 60)
    have t5 := two_calls ((-z) % 60)
    have s4 := twoP_size ((-z) / 60)
    have s5 := twoP_size ((-z) % 60)
    generalize twoP h = a1 at *
    generalize twoP mi = a2 at *
    generalize twoP se = a3 at *
    generalize twoP ((-z) / 60) = a4 at *
    generalize twoP ((-z) % 60) = a5 at *
    have T1 := Lib.hid t1
    have T2 := Lib.hid t2
    have T3 := Lib.hid t3
    have T4 := Lib.hid t4
    have T5 := Lib.hid t5
    have HP := Lib.hid hp
    clear t1 t2 t3 t4 t5 hp
    go_enter Tryd.func64, Tryd.ntmps64
    go_wp2_with fail
    go_quiet (fail)
    go_wp2_with fail
    have m3 : ((w.alloc (.cells #[.int .i64 y, .int .i64 mo, .int .i64 d, .int .i64 h, .int .i64 mi, .int .i64 se, .int .i64 z] 23)).drewN nq).cell? ⟨w.heap.size, 3, none⟩ = some (.int .i64 h) := by go_simp
    have m4 : ((w.alloc (.cells #[.int .i64 y, .int .i64 mo, .int .i64 d, .int .i64 h, .int .i64 mi, .int .i64 se, .int .i64 z] 23)).drewN nq).cell? ⟨w.heap.size, 4, none⟩ = some (.int .i64 mi) := by go_simp
    have m5 : ((w.alloc (.cells #[.int .i64 y, .int .i64 mo, .int .i64 d, .int .i64 h, .int .i64 mi, .int .i64 se, .int .i64 z] 23)).drewN nq).cell? ⟨w.heap.size, 5, none⟩ = some (.int .i64 se) := by go_simp
    have hB : Below w.heap.size w ((w.alloc (.cells #[.int .i64 y, .int .i64 mo, .int .i64 d, .int .i64 h, .int .i64 mi, .int .i64 se, .int .i64 z] 23)).drewN nq) := pw_below_drewN (below_alloc (Below.refl _ w) _) nq
    generalize (w.alloc (.cells #[.int .i64 y, .int .i64 mo, .int .i64 d, .int .i64 h, .int .i64 mi, .int .i64 se, .int .i64 z] 23)).drewN nq = w1 at *
    have HB := Lib.hid hB
    clear hB
    generalize -z = zz at *
    have hq1 : zz.tdiv 60 = zz / 60 := Int.tdiv_eq_ediv_of_nonneg z0
    have hq2 : zz.tmod 60 = zz % 60 := Int.tmod_eq_emod_of_nonneg z0
    have hq3 : IntKind.i64.wrap (zz / 60) = zz / 60 := IntWalk.i64_in _ ⟨by omega, by omega⟩
    have hq4 : IntKind.i64.wrap (zz % 60) = zz % 60 := IntWalk.i64_in _ ⟨by omega, by omega⟩
    go_region_held3 (fun w' => w'.cell? ⟨w.heap.size, 3, none⟩ = some (.int .i64 h) ∧ w'.cell? ⟨w.heap.size, 4, none⟩ = some (.int .i64 mi) ∧ w'.cell? ⟨w.heap.size, 5, none⟩ = some (.int .i64 se)) (go_keep) ((first | (go_at_call 87; (with_reducible refine (T1.out _).mono ?_); rintro e w2 ⟨rfl, hb⟩; have n0_ := Lib.hid (below_step (by repeat (first | (with_reducible exact HB.out) | (with_reducible apply below_drew) | (with_reducible apply pw_below_drewN) | exact HB.out)) hb); clear HB; have HB := n0_; clear n0_; have k3 := pw_cell_below hb (a := ⟨w.heap.size, 3, none⟩) (v := .int .i64 h) (by first | assumption | go_simp); have k4 := pw_cell_below hb (a := ⟨w.heap.size, 4, none⟩) (v := .int .i64 mi) (by first | assumption | go_simp); have k5 := pw_cell_below hb (a := ⟨w.heap.size, 5, none⟩) (v := .int .i64 se) (by first | assumption | go_simp); clear hb) | (go_at_call 87; (with_reducible refine (T2.out _).mono ?_); rintro e w3 ⟨rfl, hb⟩; have n0_ := Lib.hid (below_step (by repeat (first | (with_reducible exact HB.out) | (with_reducible apply below_drew) | (with_reducible apply pw_below_drewN) | exact HB.out)) hb); clear HB; have HB := n0_; clear n0_; have k3 := pw_cell_below hb (a := ⟨w.heap.size, 3, none⟩) (v := .int .i64 h) (by first | assumption | go_simp); have k4 := pw_cell_below hb (a := ⟨w.heap.size, 4, none⟩) (v := .int .i64 mi) (by first | assumption | go_simp); have k5 := pw_cell_below hb (a := ⟨w.heap.size, 5, none⟩) (v := .int .i64 se) (by first | assumption | go_simp); clear hb) | (go_at_call 87; (with_reducible refine (T3.out _).mono ?_); rintro e w4 ⟨rfl, hb⟩; have n0_ := Lib.hid (below_step (by repeat (first | (with_reducible exact HB.out) | (with_reducible apply below_drew) | (with_reducible apply pw_below_drewN) | exact HB.out)) hb); clear HB; have HB := n0_; clear n0_; have k3 := pw_cell_below hb (a := ⟨w.heap.size, 3, none⟩) (v := .int .i64 h) (by first | assumption | go_simp); have k4 := pw_cell_below hb (a := ⟨w.heap.size, 4, none⟩) (v := .int .i64 mi) (by first | assumption | go_simp); have k5 := pw_cell_below hb (a := ⟨w.heap.size, 5, none⟩) (v := .int .i64 se) (by first | assumption | go_simp); clear hb) | (go_at_call 87; (with_reducible refine (T4.out _).mono ?_); rintro e w5 ⟨rfl, hb⟩; have n0_ := Lib.hid (below_step (by repeat (first | (with_reducible exact HB.out) | (with_reducible apply below_drew) | (with_reducible apply pw_below_drewN) | exact HB.out)) hb); clear HB; have HB := n0_; clear n0_; have k3 := pw_cell_below hb (a := ⟨w.heap.size, 3, none⟩) (v := .int .i64 h) (by first | assumption | go_simp); have k4 := pw_cell_below hb (a := ⟨w.heap.size, 4, none⟩) (v := .int .i64 mi) (by first | assumption | go_simp); have k5 := pw_cell_below hb (a := ⟨w.heap.size, 5, none⟩) (v := .int .i64 se) (by first | assumption | go_simp); clear hb) | (go_at_call 87; (with_reducible refine (T5.out _).mono ?_); rintro e w6 ⟨rfl, hb⟩; have n0_ := Lib.hid (below_step (by repeat (first | (with_reducible exact HB.out) | (with_reducible apply below_drew) | (with_reducible apply pw_below_drewN) | exact HB.out)) hb); clear HB; have HB := n0_; clear n0_; have k3 := pw_cell_below hb (a := ⟨w.heap.size, 3, none⟩) (v := .int .i64 h) (by first | assumption | go_simp); have k4 := pw_cell_below hb (a := ⟨w.heap.size, 4, none⟩) (v := .int .i64 mi) (by first | assumption | go_simp); have k5 := pw_cell_below hb (a := ⟨w.heap.size, 5, none⟩) (v := .int .i64 se) (by first | assumption | go_simp); clear hb)))
    all_goals go_wp2
    all_goals go_ret
    all_goals exact ⟨by rw [HP.out]; rfl, HB.out⟩
  · skip
    have hp : clockP h mi se z = twoP h ++ ⟨#[58]⟩ ++ twoP mi ++ ⟨#[58]⟩ ++ twoP se ++ ⟨#[32]⟩ ++ ⟨#[43]⟩ ++ twoP (z / 60) ++ twoP (z % 60) := by unfold clockP; rw [if_neg hz]; rfl
    have d1 : decide (z < 0) = false := decide_eq_false hz
    have z0 : 0 ≤ z := by omega
    have z1 : z ≤ 1439 := by omega
    have t4 := two_calls (z / 60)
    have t5 := two_calls (z % 60)
    have s4 := twoP_size (z / 60)
    have s5 := twoP_size (z % 60)
    generalize twoP h = a1 at *
    generalize twoP mi = a2 at *
    generalize twoP se = a3 at *
    generalize twoP (z / 60) = a4 at *
    generalize twoP (z % 60) = a5 at *
    have T1 := Lib.hid t1
    have T2 := Lib.hid t2
    have T3 := Lib.hid t3
    have T4 := Lib.hid t4
    have T5 := Lib.hid t5
    have HP := Lib.hid hp
    clear t1 t2 t3 t4 t5 hp
    go_enter Tryd.func64, Tryd.ntmps64
    go_wp2_with fail
    go_quiet (fail)
    go_wp2_with fail
    have m3 : ((w.alloc (.cells #[.int .i64 y, .int .i64 mo, .int .i64 d, .int .i64 h, .int .i64 mi, .int .i64 se, .int .i64 z] 23)).drewN nq).cell? ⟨w.heap.size, 3, none⟩ = some (.int .i64 h) := by go_simp
    have m4 : ((w.alloc (.cells #[.int .i64 y, .int .i64 mo, .int .i64 d, .int .i64 h, .int .i64 mi, .int .i64 se, .int .i64 z] 23)).drewN nq).cell? ⟨w.heap.size, 4, none⟩ = some (.int .i64 mi) := by go_simp
    have m5 : ((w.alloc (.cells #[.int .i64 y, .int .i64 mo, .int .i64 d, .int .i64 h, .int .i64 mi, .int .i64 se, .int .i64 z] 23)).drewN nq).cell? ⟨w.heap.size, 5, none⟩ = some (.int .i64 se) := by go_simp
    have hB : Below w.heap.size w ((w.alloc (.cells #[.int .i64 y, .int .i64 mo, .int .i64 d, .int .i64 h, .int .i64 mi, .int .i64 se, .int .i64 z] 23)).drewN nq) := pw_below_drewN (below_alloc (Below.refl _ w) _) nq
    generalize (w.alloc (.cells #[.int .i64 y, .int .i64 mo, .int .i64 d, .int .i64 h, .int .i64 mi, .int .i64 se, .int .i64 z] 23)).drewN nq = w1 at *
    have HB := Lib.hid hB
    clear hB
    have hq1 : z.tdiv 60 = z / 60 := Int.tdiv_eq_ediv_of_nonneg z0
    have hq2 : z.tmod 60 = z % 60 := Int.tmod_eq_emod_of_nonneg z0
    have hq3 : IntKind.i64.wrap (z / 60) = z / 60 := IntWalk.i64_in _ ⟨by omega, by omega⟩
    have hq4 : IntKind.i64.wrap (z % 60) = z % 60 := IntWalk.i64_in _ ⟨by omega, by omega⟩
    go_region_held3 (fun w' => w'.cell? ⟨w.heap.size, 3, none⟩ = some (.int .i64 h) ∧ w'.cell? ⟨w.heap.size, 4, none⟩ = some (.int .i64 mi) ∧ w'.cell? ⟨w.heap.size, 5, none⟩ = some (.int .i64 se)) (go_keep) ((first | (go_at_call 87; (with_reducible refine (T1.out _).mono ?_); rintro e w2 ⟨rfl, hb⟩; have n0_ := Lib.hid (below_step (by repeat (first | (with_reducible exact HB.out) | (with_reducible apply below_drew) | (with_reducible apply pw_below_drewN) | exact HB.out)) hb); clear HB; have HB := n0_; clear n0_; have k3 := pw_cell_below hb (a := ⟨w.heap.size, 3, none⟩) (v := .int .i64 h) (by first | assumption | go_simp); have k4 := pw_cell_below hb (a := ⟨w.heap.size, 4, none⟩) (v := .int .i64 mi) (by first | assumption | go_simp); have k5 := pw_cell_below hb (a := ⟨w.heap.size, 5, none⟩) (v := .int .i64 se) (by first | assumption | go_simp); clear hb) | (go_at_call 87; (with_reducible refine (T2.out _).mono ?_); rintro e w3 ⟨rfl, hb⟩; have n0_ := Lib.hid (below_step (by repeat (first | (with_reducible exact HB.out) | (with_reducible apply below_drew) | (with_reducible apply pw_below_drewN) | exact HB.out)) hb); clear HB; have HB := n0_; clear n0_; have k3 := pw_cell_below hb (a := ⟨w.heap.size, 3, none⟩) (v := .int .i64 h) (by first | assumption | go_simp); have k4 := pw_cell_below hb (a := ⟨w.heap.size, 4, none⟩) (v := .int .i64 mi) (by first | assumption | go_simp); have k5 := pw_cell_below hb (a := ⟨w.heap.size, 5, none⟩) (v := .int .i64 se) (by first | assumption | go_simp); clear hb) | (go_at_call 87; (with_reducible refine (T3.out _).mono ?_); rintro e w4 ⟨rfl, hb⟩; have n0_ := Lib.hid (below_step (by repeat (first | (with_reducible exact HB.out) | (with_reducible apply below_drew) | (with_reducible apply pw_below_drewN) | exact HB.out)) hb); clear HB; have HB := n0_; clear n0_; have k3 := pw_cell_below hb (a := ⟨w.heap.size, 3, none⟩) (v := .int .i64 h) (by first | assumption | go_simp); have k4 := pw_cell_below hb (a := ⟨w.heap.size, 4, none⟩) (v := .int .i64 mi) (by first | assumption | go_simp); have k5 := pw_cell_below hb (a := ⟨w.heap.size, 5, none⟩) (v := .int .i64 se) (by first | assumption | go_simp); clear hb) | (go_at_call 87; (with_reducible refine (T4.out _).mono ?_); rintro e w5 ⟨rfl, hb⟩; have n0_ := Lib.hid (below_step (by repeat (first | (with_reducible exact HB.out) | (with_reducible apply below_drew) | (with_reducible apply pw_below_drewN) | exact HB.out)) hb); clear HB; have HB := n0_; clear n0_; have k3 := pw_cell_below hb (a := ⟨w.heap.size, 3, none⟩) (v := .int .i64 h) (by first | assumption | go_simp); have k4 := pw_cell_below hb (a := ⟨w.heap.size, 4, none⟩) (v := .int .i64 mi) (by first | assumption | go_simp); have k5 := pw_cell_below hb (a := ⟨w.heap.size, 5, none⟩) (v := .int .i64 se) (by first | assumption | go_simp); clear hb) | (go_at_call 87; (with_reducible refine (T5.out _).mono ?_); rintro e w6 ⟨rfl, hb⟩; have n0_ := Lib.hid (below_step (by repeat (first | (with_reducible exact HB.out) | (with_reducible apply below_drew) | (with_reducible apply pw_below_drewN) | exact HB.out)) hb); clear HB; have HB := n0_; clear n0_; have k3 := pw_cell_below hb (a := ⟨w.heap.size, 3, none⟩) (v := .int .i64 h) (by first | assumption | go_simp); have k4 := pw_cell_below hb (a := ⟨w.heap.size, 4, none⟩) (v := .int .i64 mi) (by first | assumption | go_simp); have k5 := pw_cell_below hb (a := ⟨w.heap.size, 5, none⟩) (v := .int .i64 se) (by first | assumption | go_simp); clear hb)))
    all_goals go_wp2
    all_goals go_ret
    all_goals exact ⟨by rw [HP.out]; rfl, HB.out⟩
def moment_clock.f (_y _mo _d h mi se z : Int) : Option ByteArray := if -1439 ≤ z ∧ z ≤ 1439 then some (clockP h mi se z) else none
theorem moment_clock.calls (a0_0 a0_1 a0_2 a0_3 a0_4 a0_5 a0_6 : Int) (r : ByteArray) (w : World) (h : moment_clock.f a0_0 a0_1 a0_2 a0_3 a0_4 a0_5 a0_6 = some r) :
    Calls Tryd.prog 64 #[.agg #[.int .i64 a0_0, .int .i64 a0_1, .int .i64 a0_2, .int .i64 a0_3, .int .i64 a0_4, .int .i64 a0_5, .int .i64 a0_6]] w fun e w' => e = .returned (.string r) ∧ Below w.heap.size w w' := by
  unfold moment_clock.f at h
  by_cases hz : -1439 ≤ a0_6 ∧ a0_6 ≤ 1439
  · rw [if_pos hz] at h
    obtain rfl := Option.some.inj h
    exact clock_calls _ _ _ _ _ _ _ w hz.1 hz.2
  · rw [if_neg hz] at h
    exact absurd h (by simp)
end Go.Proofs.YtjlchnmpebdggaaDoor.Mo
end
section
namespace Go.Proofs.YtjlchnmpebdggaaDoor.Mo
open Go.RowKit Go.Proofs.YtjlchnmpebdggaaDoorW.PrintWords
def internalT (y m d h mi s z : Int) : ByteArray := padP d ++ dashP y m ++ ⟨#[32]⟩ ++ clockP h mi s z
def printInternalP (y m d h mi s z : Int) : ByteArray × Int := if refuseP y m d h mi s z = 0 then (internalT y m d h mi s z, 0) else (⟨#[]⟩, refuseP y m d h mi s z)
theorem dashP_size (y m : Int) (h1 : 1 ≤ m) (h2 : m ≤ 12) : (dashP y m).size = 9 := by
  unfold dashP
  rw [ByteArray.size_append, ByteArray.size_append, ByteArray.size_append, month_size _ (by omega), fourP_size]
  rfl
theorem refuse_zero {y m d h mi s z : Int} (hr : refuseP y m d h mi s z = 0) : isDayB y m d = true ∧ validB y m d h mi s z = true := by
  unfold refuseP at hr
  split at hr
  · split at hr
    · exact ⟨‹_›, ‹_›⟩
    · exact absurd hr (by decide)
  · exact absurd hr (by decide)
set_option maxHeartbeats 4000000 in
set_option maxRecDepth 100000 in
theorem printInternal_calls (y m d h mi s z : Int) (w : World) (hL : Laid w) :
    Calls Tryd.prog 29 #[.agg #[.int .i64 y, .int .i64 m, .int .i64 d, .int .i64 h, .int .i64 mi, .int .i64 s, .int .i64 z]] w fun e w' => e = .returned (.tuple #[.string (printInternalP y m d h mi s z).1, .int .i64 (printInternalP y m d h mi s z).2]) ∧ Below w.heap.size w w' := by
  have HL := Lib.hid (laid_below hL (below_alloc (Below.refl _ w) (.cells #[.int .i64 y, .int .i64 m, .int .i64 d, .int .i64 h, .int .i64 mi, .int .i64 s, .int .i64 z] 23)))
  have HR := Lib.hid (refused_f y m d h mi s z)
  by_cases hr : refuseP y m d h mi s z = 0
  · obtain ⟨hd, hv⟩ := refuse_zero hr
    have hdd := (isDay_iff y m d).1 hd
    have htt := (time_iff h mi s z).1 ((valid_iff y m d h mi s z).1 hv).2
    have hp : printInternalP y m d h mi s z = (internalT y m d h mi s z, 0) := if_pos hr
    rw [hp]
    have hpl := plain_f d
    have hds := dashP_size y m (by omega) (by omega)
    have hda : moment_dashed.f y m d h mi s z = some (dashP y m) := if_pos ⟨by omega, by omega⟩
    have hck : moment_clock.f y m d h mi s z = some (clockP h mi s z) := if_pos ⟨by omega, by omega⟩
    have hcs := clockP_size h mi s z
    rw [hr] at HR
    have HPL := Lib.hid hpl
    have HDA := Lib.hid hda
    have HCK := Lib.hid hck
    have hps := plainP_size d
    have HI : Hid (internalT y m d h mi s z = (if (plainP d).size = 1 then (⟨#[32]⟩ : ByteArray) ++ plainP d else plainP d) ++ dashP y m ++ ⟨#[32]⟩ ++ clockP h mi s z) := Lib.hid rfl
    generalize plainP d = pd at *
    generalize dashP y m = da at *
    generalize clockP h mi s z = ck at *
    clear hL hr hd hv hdd htt hp hpl hda hck
    have arm : True := trivial
    rcases hps with h1 | h2
    · have e : Hid (internalT y m d h mi s z = (⟨#[32]⟩ : ByteArray) ++ pd ++ da ++ ⟨#[32]⟩ ++ ck) := Lib.hid (by rw [HI.out, if_pos h1])
      clear HI
      go_enter Tryd.func29, Tryd.ntmps29
      go_wp2_with fail
      refine (moment_refused.calls _ _ _ _ _ _ _ 0 _ HR.out HL.out).mono ?_
      rintro e1 w1 ⟨rfl, hb1⟩
      have HB1 := Lib.hid (below_step (below_alloc (Below.refl _ w) _) hb1)
      have hbx := (hb1.block w.heap.size (by simp)).trans (heap_alloc_new w _)
      obtain ⟨⟨c0, c1, c2, c3, c4, c5, c6⟩, _⟩ := cells7 hbx
      have HBX := Lib.hid hbx
      clear hb1 hbx
      go_wp2_with fail
      refine (moment_plain.calls _ pd _ HPL.out).mono ?_
      rintro e1 w2 ⟨rfl, hb1⟩
      have HB := Lib.hid (below_step HB1.out hb1)
      have hbx := (hb1.block w.heap.size (blk_lt HBX.out)).trans HBX.out
      clear c0 c1 c2 c3 c4 c5 c6 HB1 HBX
      obtain ⟨⟨c0, c1, c2, c3, c4, c5, c6⟩, _⟩ := cells7 hbx
      clear hb1 hbx
      go_wp2_with fail
      go_region_held3 (fun w' => w'.cell? ⟨w.heap.size, 0, none⟩ = some (.int .i64 y) ∧ w'.cell? ⟨w.heap.size, 1, none⟩ = some (.int .i64 m) ∧ w'.cell? ⟨w.heap.size, 2, none⟩ = some (.int .i64 d) ∧ w'.cell? ⟨w.heap.size, 3, none⟩ = some (.int .i64 h) ∧ w'.cell? ⟨w.heap.size, 4, none⟩ = some (.int .i64 mi) ∧ w'.cell? ⟨w.heap.size, 5, none⟩ = some (.int .i64 s) ∧ w'.cell? ⟨w.heap.size, 6, none⟩ = some (.int .i64 z)) (go_keep) ((first | (go_at_call 50; (with_reducible refine (moment_dashed.calls y m d h mi s z _ _ HDA.out).mono ?_); rintro e1 w3 ⟨rfl, hb⟩; have n0_ := Lib.hid (below_step (by repeat (first | (with_reducible exact HB.out) | (with_reducible apply below_drew) | (with_reducible apply pw_below_drewN) | exact HB.out)) hb); clear HB; have HB := n0_; clear n0_; have k0 := pw_cell_below hb (a := ⟨w.heap.size, 0, none⟩) (v := .int .i64 y) (by first | assumption | go_simp); have k1 := pw_cell_below hb (a := ⟨w.heap.size, 1, none⟩) (v := .int .i64 m) (by first | assumption | go_simp); have k2 := pw_cell_below hb (a := ⟨w.heap.size, 2, none⟩) (v := .int .i64 d) (by first | assumption | go_simp); have k3 := pw_cell_below hb (a := ⟨w.heap.size, 3, none⟩) (v := .int .i64 h) (by first | assumption | go_simp); have k4 := pw_cell_below hb (a := ⟨w.heap.size, 4, none⟩) (v := .int .i64 mi) (by first | assumption | go_simp); have k5 := pw_cell_below hb (a := ⟨w.heap.size, 5, none⟩) (v := .int .i64 s) (by first | assumption | go_simp); have k6 := pw_cell_below hb (a := ⟨w.heap.size, 6, none⟩) (v := .int .i64 z) (by first | assumption | go_simp); clear hb) | (go_at_call 64; (with_reducible refine (moment_clock.calls y m d h mi s z _ _ HCK.out).mono ?_); rintro e1 w4 ⟨rfl, hb⟩; have n0_ := Lib.hid (below_step (by repeat (first | (with_reducible exact HB.out) | (with_reducible apply below_drew) | (with_reducible apply pw_below_drewN) | exact HB.out)) hb); clear HB; have HB := n0_; clear n0_; have k0 := pw_cell_below hb (a := ⟨w.heap.size, 0, none⟩) (v := .int .i64 y) (by first | assumption | go_simp); have k1 := pw_cell_below hb (a := ⟨w.heap.size, 1, none⟩) (v := .int .i64 m) (by first | assumption | go_simp); have k2 := pw_cell_below hb (a := ⟨w.heap.size, 2, none⟩) (v := .int .i64 d) (by first | assumption | go_simp); have k3 := pw_cell_below hb (a := ⟨w.heap.size, 3, none⟩) (v := .int .i64 h) (by first | assumption | go_simp); have k4 := pw_cell_below hb (a := ⟨w.heap.size, 4, none⟩) (v := .int .i64 mi) (by first | assumption | go_simp); have k5 := pw_cell_below hb (a := ⟨w.heap.size, 5, none⟩) (v := .int .i64 s) (by first | assumption | go_simp); have k6 := pw_cell_below hb (a := ⟨w.heap.size, 6, none⟩) (v := .int .i64 z) (by first | assumption | go_simp); clear hb)))
      all_goals go_wp2
      all_goals go_ret2
      all_goals exact ⟨by rw [e.out]; rfl, HB.out⟩
    · have e : Hid (internalT y m d h mi s z = pd ++ da ++ ⟨#[32]⟩ ++ ck) := Lib.hid (by rw [HI.out, if_neg (by omega)])
      clear HI
      go_enter Tryd.func29, Tryd.ntmps29
      go_wp2_with fail
      refine (moment_refused.calls _ _ _ _ _ _ _ 0 _ HR.out HL.out).mono ?_
      rintro e1 w1 ⟨rfl, hb1⟩
      have HB1 := Lib.hid (below_step (below_alloc (Below.refl _ w) _) hb1)
      have hbx := (hb1.block w.heap.size (by simp)).trans (heap_alloc_new w _)
      obtain ⟨⟨c0, c1, c2, c3, c4, c5, c6⟩, _⟩ := cells7 hbx
      have HBX := Lib.hid hbx
      clear hb1 hbx
      go_wp2_with fail
      refine (moment_plain.calls _ pd _ HPL.out).mono ?_
      rintro e1 w2 ⟨rfl, hb1⟩
      have HB := Lib.hid (below_step HB1.out hb1)
      have hbx := (hb1.block w.heap.size (blk_lt HBX.out)).trans HBX.out
      clear c0 c1 c2 c3 c4 c5 c6 HB1 HBX
      obtain ⟨⟨c0, c1, c2, c3, c4, c5, c6⟩, _⟩ := cells7 hbx
      clear hb1 hbx
      go_wp2_with fail
      go_region_held3 (fun w' => w'.cell? ⟨w.heap.size, 0, none⟩ = some (.int .i64 y) ∧ w'.cell? ⟨w.heap.size, 1, none⟩ = some (.int .i64 m) ∧ w'.cell? ⟨w.heap.size, 2, none⟩ = some (.int .i64 d) ∧ w'.cell? ⟨w.heap.size, 3, none⟩ = some (.int .i64 h) ∧ w'.cell? ⟨w.heap.size, 4, none⟩ = some (.int .i64 mi) ∧ w'.cell? ⟨w.heap.size, 5, none⟩ = some (.int .i64 s) ∧ w'.cell? ⟨w.heap.size, 6, none⟩ = some (.int .i64 z)) (go_keep) ((first | (go_at_call 50; (with_reducible refine (moment_dashed.calls y m d h mi s z _ _ HDA.out).mono ?_); rintro e1 w3 ⟨rfl, hb⟩; have n0_ := Lib.hid (below_step (by repeat (first | (with_reducible exact HB.out) | (with_reducible apply below_drew) | (with_reducible apply pw_below_drewN) | exact HB.out)) hb); clear HB; have HB := n0_; clear n0_; have k0 := pw_cell_below hb (a := ⟨w.heap.size, 0, none⟩) (v := .int .i64 y) (by first | assumption | go_simp); have k1 := pw_cell_below hb (a := ⟨w.heap.size, 1, none⟩) (v := .int .i64 m) (by first | assumption | go_simp); have k2 := pw_cell_below hb (a := ⟨w.heap.size, 2, none⟩) (v := .int .i64 d) (by first | assumption | go_simp); have k3 := pw_cell_below hb (a := ⟨w.heap.size, 3, none⟩) (v := .int .i64 h) (by first | assumption | go_simp); have k4 := pw_cell_below hb (a := ⟨w.heap.size, 4, none⟩) (v := .int .i64 mi) (by first | assumption | go_simp); have k5 := pw_cell_below hb (a := ⟨w.heap.size, 5, none⟩) (v := .int .i64 s) (by first | assumption | go_simp); have k6 := pw_cell_below hb (a := ⟨w.heap.size, 6, none⟩) (v := .int .i64 z) (by first | assumption | go_simp); clear hb) | (go_at_call 64; (with_reducible refine (moment_clock.calls y m d h mi s z _ _ HCK.out).mono ?_); rintro e1 w4 ⟨rfl, hb⟩; have n0_ := Lib.hid (below_step (by repeat (first | (with_reducible exact HB.out) | (with_reducible apply below_drew) | (with_reducible apply pw_below_drewN) | exact HB.out)) hb); clear HB; have HB := n0_; clear n0_; have k0 := pw_cell_below hb (a := ⟨w.heap.size, 0, none⟩) (v := .int .i64 y) (by first | assumption | go_simp); have k1 := pw_cell_below hb (a := ⟨w.heap.size, 1, none⟩) (v := .int .i64 m) (by first | assumption | go_simp); have k2 := pw_cell_below hb (a := ⟨w.heap.size, 2, none⟩) (v := .int .i64 d) (by first | assumption | go_simp); have k3 := pw_cell_below hb (a := ⟨w.heap.size, 3, none⟩) (v := .int .i64 h) (by first | assumption | go_simp); have k4 := pw_cell_below hb (a := ⟨w.heap.size, 4, none⟩) (v := .int .i64 mi) (by first | assumption | go_simp); have k5 := pw_cell_below hb (a := ⟨w.heap.size, 5, none⟩) (v := .int .i64 s) (by first | assumption | go_simp); have k6 := pw_cell_below hb (a := ⟨w.heap.size, 6, none⟩) (v := .int .i64 z) (by first | assumption | go_simp); clear hb)))
      all_goals go_wp2
      all_goals go_ret2
      all_goals exact ⟨by rw [e.out]; rfl, HB.out⟩
  · have hp : printInternalP y m d h mi s z = (⟨#[]⟩, refuseP y m d h mi s z) := if_neg hr
    rw [hp]
    generalize refuseP y m d h mi s z = q at *
    have hq : (q != 0) = true := by rw [bne_iff_ne]; exact hr
    clear hL hp hr
    go_enter Tryd.func29, Tryd.ntmps29
    go_wp2_with fail
    refine (moment_refused.calls _ _ _ _ _ _ _ q _ HR.out HL.out).mono ?_
    rintro e1 w1 ⟨rfl, hb1⟩
    have HB1 := Lib.hid (below_step (below_alloc (Below.refl _ w) _) hb1)
    clear hb1
    go_wp2
    go_ret2
    exact ⟨rfl, HB1.out⟩
def moment_PrintInternal.f (y m d h mi s z : Int) : Option (ByteArray × Int) := some (printInternalP y m d h mi s z)
theorem moment_PrintInternal.calls (a0_0 a0_1 a0_2 a0_3 a0_4 a0_5 a0_6 : Int) (r1 : ByteArray) (r2 : Int) (w : World) (h : moment_PrintInternal.f a0_0 a0_1 a0_2 a0_3 a0_4 a0_5 a0_6 = some (r1, r2)) (hL : Laid w) :
    Calls Tryd.prog 29 #[.agg #[.int .i64 a0_0, .int .i64 a0_1, .int .i64 a0_2, .int .i64 a0_3, .int .i64 a0_4, .int .i64 a0_5, .int .i64 a0_6]] w fun e w' => e = .returned (.tuple #[.string r1, .int .i64 r2]) ∧ Below w.heap.size w w' := by
  have h := Option.some.inj h
  have h2 := printInternal_calls a0_0 a0_1 a0_2 a0_3 a0_4 a0_5 a0_6 w hL
  rw [h] at h2
  exact h2
end Go.Proofs.YtjlchnmpebdggaaDoor.Mo
end
section
namespace Go.Proofs.YtjlchnmpebdggaaDoor.Mo
open Go.RowKit Go.Proofs.YtjlchnmpebdggaaDoorW.PrintWords
def text1 : ByteArray := ⟨#[32, 49, 45, 70, 101, 98, 45, 50, 48, 50, 54, 32, 49, 48, 58, 48, 48, 58, 48, 48, 32, 43, 48, 49, 48, 48]⟩
def text2 : ByteArray := ⟨#[49, 32, 70, 101, 98, 32, 50, 48, 50, 54, 32, 49, 48, 58, 48, 48, 32, 43, 48, 49, 48, 48]⟩
theorem kn_print : moment_PrintInternal.f 2026 2 1 10 0 0 60 = some (text1, 0) := by kernel_rfl
theorem kn_read : moment_ReadInternal.f text1 = some (2026, 2, 1, 10, 0, 0, 60, 0) := by kernel_rfl
theorem kn_head : moment_ReadHeader.f text2 = some (2026, 2, 1, 10, 0, 0, 60, 0) := by kernel_rfl
theorem kn_valid : moment_Valid.f 2026 2 1 10 0 0 60 = some true := by kernel_rfl
theorem kn_week : moment_Weekday.f 20 2026 2 1 10 0 0 60 = some 0 := by kernel_rfl
theorem kn_days : moment_Days.f 20 2026 2 1 10 0 0 60 = some 20485 := by kernel_rfl
set_option maxHeartbeats 4000000 in
set_option maxRecDepth 100000 in
theorem known_calls (w : World) (hL : Laid w) : Calls Tryd.prog 15 #[] w fun e w' => e = .returned (.bool true) ∧ Below w.heap.size w w' := by
  have HL := Lib.hid hL
  clear hL
  have K1 := Lib.hid kn_print
  have K2 := Lib.hid kn_read
  have K3 := Lib.hid kn_head
  have K4 := Lib.hid kn_valid
  have K5 := Lib.hid kn_week
  have K6 := Lib.hid kn_days
  go_enter Tryd.func15, Tryd.ntmps15
  go_wp2_with fail
  have HA := Lib.hid (heap_alloc_new w (.cells #[.int .i64 2026, .int .i64 2, .int .i64 1, .int .i64 10, .int .i64 0, .int .i64 0, .int .i64 60] 23))
  have HB := Lib.hid (below_alloc (Below.refl _ w) (.cells #[.int .i64 2026, .int .i64 2, .int .i64 1, .int .i64 10, .int .i64 0, .int .i64 0, .int .i64 60] 23))
  generalize w.alloc (.cells #[.int .i64 2026, .int .i64 2, .int .i64 1, .int .i64 10, .int .i64 0, .int .i64 0, .int .i64 60] 23) = w0 at *
  refine (moment_PrintInternal.calls 2026 2 1 10 0 0 60 text1 0 _ K1.out (laid_below HL.out (by repeat (first | (with_reducible exact HB.out) | (with_reducible apply below_drew) | (with_reducible apply pw_below_drewN) | exact HB.out)))).mono ?_
  rintro e w1 ⟨rfl, hb⟩
  have n0_ := Lib.hid (below_step (by repeat (first | (with_reducible exact HB.out) | (with_reducible apply below_drew) | (with_reducible apply pw_below_drewN) | exact HB.out)) hb)
  clear HB
  have HB := n0_
  clear n0_
  have n0_ := Lib.hid ((hb.block _ (blk_lt HA.out)).trans HA.out)
  clear HA
  have HA := n0_
  clear n0_
  clear hb
  go_wp2_with fail
  refine (moment_ReadInternal.calls text1 2026 2 1 10 0 0 60 0 _ K2.out (laid_below HL.out (by repeat (first | (with_reducible exact HB.out) | (with_reducible apply below_drew) | (with_reducible apply pw_below_drewN) | exact HB.out)))).mono ?_
  rintro e w2 ⟨rfl, hb⟩
  have n0_ := Lib.hid (below_step (by repeat (first | (with_reducible exact HB.out) | (with_reducible apply below_drew) | (with_reducible apply pw_below_drewN) | exact HB.out)) hb)
  clear HB
  have HB := n0_
  clear n0_
  have n0_ := Lib.hid ((hb.block _ (blk_lt HA.out)).trans HA.out)
  clear HA
  have HA := n0_
  clear n0_
  clear hb
  go_wp2_with fail
  have n1_ := Lib.hid (heap_alloc_new w2 (.cells #[.int .i64 2026, .int .i64 2, .int .i64 1, .int .i64 10, .int .i64 0, .int .i64 0, .int .i64 60] 23))
  have n0_ := Lib.hid ((Below.heap_alloc w2 (.cells #[.int .i64 2026, .int .i64 2, .int .i64 1, .int .i64 10, .int .i64 0, .int .i64 0, .int .i64 60] 23) _ (blk_lt HA.out)).trans HA.out)
  clear HA
  have HA := n0_
  clear n0_
  have HX := n1_
  clear n1_
  have n0_ := Lib.hid (below_alloc HB.out (.cells #[.int .i64 2026, .int .i64 2, .int .i64 1, .int .i64 10, .int .i64 0, .int .i64 0, .int .i64 60] 23))
  clear HB
  have HB := n0_
  clear n0_
  generalize w2.alloc (.cells #[.int .i64 2026, .int .i64 2, .int .i64 1, .int .i64 10, .int .i64 0, .int .i64 0, .int .i64 60] 23) = w3 at *
  refine (moment_ReadHeader.calls text2 2026 2 1 10 0 0 60 0 _ K3.out (laid_below HL.out (by repeat (first | (with_reducible exact HB.out) | (with_reducible apply below_drew) | (with_reducible apply pw_below_drewN) | exact HB.out)))).mono ?_
  rintro e w4 ⟨rfl, hb⟩
  have n0_ := Lib.hid (below_step (by repeat (first | (with_reducible exact HB.out) | (with_reducible apply below_drew) | (with_reducible apply pw_below_drewN) | exact HB.out)) hb)
  clear HB
  have HB := n0_
  clear n0_
  have n0_ := Lib.hid ((hb.block _ (blk_lt HA.out)).trans HA.out)
  clear HA
  have HA := n0_
  clear n0_
  have n0_ := Lib.hid ((hb.block _ (blk_lt HX.out)).trans HX.out)
  clear HX
  have HX := n0_
  clear n0_
  clear hb
  go_upto_region 5 with fail
  have n1_ := Lib.hid (heap_alloc_new w4 (.cells #[.int .i64 2026, .int .i64 2, .int .i64 1, .int .i64 10, .int .i64 0, .int .i64 0, .int .i64 60] 23))
  have n0_ := Lib.hid ((Below.heap_alloc w4 (.cells #[.int .i64 2026, .int .i64 2, .int .i64 1, .int .i64 10, .int .i64 0, .int .i64 0, .int .i64 60] 23) _ (blk_lt HA.out)).trans HA.out)
  clear HA
  have HA := n0_
  clear n0_
  have n0_ := Lib.hid ((Below.heap_alloc w4 (.cells #[.int .i64 2026, .int .i64 2, .int .i64 1, .int .i64 10, .int .i64 0, .int .i64 0, .int .i64 60] 23) _ (blk_lt HX.out)).trans HX.out)
  clear HX
  have HX := n0_
  clear n0_
  have HH := n1_
  clear n1_
  have n0_ := Lib.hid (below_alloc HB.out (.cells #[.int .i64 2026, .int .i64 2, .int .i64 1, .int .i64 10, .int .i64 0, .int .i64 0, .int .i64 60] 23))
  clear HB
  have HB := n0_
  clear n0_
  generalize w4.alloc (.cells #[.int .i64 2026, .int .i64 2, .int .i64 1, .int .i64 10, .int .i64 0, .int .i64 0, .int .i64 60] 23) = w5 at *
  obtain ⟨⟨a0, a1, a2, a3, a4, a5, a6⟩, _⟩ := cells7 HA.out
  obtain ⟨⟨x0, x1, x2, x3, x4, x5, x6⟩, _⟩ := cells7 HX.out
  obtain ⟨⟨y0, y1, y2, y3, y4, y5, y6⟩, _⟩ := cells7 HH.out
  go_wp2_with fail
  clear a0 a1 a2 a3 a4 a5 a6
  clear x0 x1 x2 x3 x4 x5 x6
  clear y0 y1 y2 y3 y4 y5 y6
  refine (moment_Valid.calls 2026 2 1 10 0 0 60 true _ K4.out (laid_below HL.out (by repeat (first | (with_reducible exact HB.out) | (with_reducible apply below_drew) | (with_reducible apply pw_below_drewN) | exact HB.out)))).mono ?_
  rintro e w6 ⟨rfl, hb⟩
  have n0_ := Lib.hid (below_step (by repeat (first | (with_reducible exact HB.out) | (with_reducible apply below_drew) | (with_reducible apply pw_below_drewN) | exact HB.out)) hb)
  clear HB
  have HB := n0_
  clear n0_
  have n0_ := Lib.hid ((hb.block _ (blk_lt HA.out)).trans HA.out)
  clear HA
  have HA := n0_
  clear n0_
  clear hb
  obtain ⟨⟨a0, a1, a2, a3, a4, a5, a6⟩, _⟩ := cells7 HA.out
  go_wp2_with fail
  clear a0 a1 a2 a3 a4 a5 a6
  refine (moment_Weekday.calls 20 2026 2 1 10 0 0 60 0 _ K5.out (laid_below HL.out (by repeat (first | (with_reducible exact HB.out) | (with_reducible apply below_drew) | (with_reducible apply pw_below_drewN) | exact HB.out)))).mono ?_
  rintro e w7 ⟨rfl, hb⟩
  have n0_ := Lib.hid (below_step (by repeat (first | (with_reducible exact HB.out) | (with_reducible apply below_drew) | (with_reducible apply pw_below_drewN) | exact HB.out)) hb)
  clear HB
  have HB := n0_
  clear n0_
  have n0_ := Lib.hid ((hb.block _ (blk_lt HA.out)).trans HA.out)
  clear HA
  have HA := n0_
  clear n0_
  clear hb
  obtain ⟨⟨a0, a1, a2, a3, a4, a5, a6⟩, _⟩ := cells7 HA.out
  go_wp2_with fail
  clear a0 a1 a2 a3 a4 a5 a6
  refine (moment_Days.calls 20 2026 2 1 10 0 0 60 20485 _ K6.out (laid_below HL.out (by repeat (first | (with_reducible exact HB.out) | (with_reducible apply below_drew) | (with_reducible apply pw_below_drewN) | exact HB.out)))).mono ?_
  rintro e w8 ⟨rfl, hb⟩
  have n0_ := Lib.hid (below_step (by repeat (first | (with_reducible exact HB.out) | (with_reducible apply below_drew) | (with_reducible apply pw_below_drewN) | exact HB.out)) hb)
  clear HB
  have HB := n0_
  clear n0_
  have n0_ := Lib.hid ((hb.block _ (blk_lt HA.out)).trans HA.out)
  clear HA
  have HA := n0_
  clear n0_
  clear hb
  go_wp2
  go_ret
  exact ⟨rfl, HB.out⟩
end Go.Proofs.YtjlchnmpebdggaaDoor.Mo
end
