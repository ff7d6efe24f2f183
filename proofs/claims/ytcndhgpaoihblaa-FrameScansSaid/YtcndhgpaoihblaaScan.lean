/- frame.Scan and its iterator: whatever it is handed, it hands on the plain frames one by one, until it is told to stop. -/
import Derived.Test.YtcndhgpaoihblaaReadF
import Derived.Test.YtcndhgpaoihblaaWKept
import Derived.BigQuiet
import Derived.Deep.QuietTactic
import Derived.Deep.LoopGhost
namespace Go.Proofs.Ytcndhgpaoihblaa.Fr
open Go.RowKit Go.Proofs.YtcndhgpaoihblaaW.PrintWords
open Plain Crc

/-- What a teller (a function value that captures caps) does: a state that hangs on the frames that it was told of. -/
structure Teller (fn : Nat) (caps : Array Value) (base : Nat) (St : List Seen → (Nat → Prop) → World → Prop) (g : List Seen → Seen → Bool) (lim : Nat := 4611686018427387904) : Prop where
  move : ∀ {l ok w w'}, (∀ k, ok k → k < w.heap.size → w'.heap[k]? = w.heap[k]?) → w.heap.size ≤ w'.heap.size → St l ok w → St l ok w'
  mono : ∀ {l ok ok' w}, (∀ k, ok k → ok' k) → St l ok w → St l ok' w
  entry : ∀ (args : Array Value) (w : World), Sem.run Try.prog (callFunc fn args) w = .ok (.enter fn args) w
  step : ∀ (l : List Seen) (x : Seen) ok (w : World), l.length < lim → base ≤ w.heap.size → St l ok w →
    Calls Try.prog fn (#[.int .i64 x.next, .agg #[.int .i64 x.kind, .int .i64 x.number, .int .i64 x.at_, .string ⟨x.body.toArray⟩]] ++ caps) w fun e w' => e = .returned (.bool (g l x)) ∧ St (l ++ [x]) (fun k => ok k ∨ w.heap.size ≤ k) w' ∧ Below base w w' ∧ Kept w w' ok

theorem scan_calls (s : ByteArray) (w : World) :
    Calls Try.prog 21 #[.string s] w fun e w' => e = .returned (.func (.func 35) #[] #[.pointer (some ⟨w.heap.size, 0, none⟩)]) ∧ w' = w.alloc (.cells #[.string s] 9) := by
  go_enter Try.func21, Try.ntmps21
  go_wp2
  go_ret
  exact ⟨rfl, rfl⟩

theorem body_eq (s : ByteArray) (i m : Nat) : (s.extract i s.size).extract 14 (14 + m) = ⟨(((s.data.toList.drop i).drop 14).take m).toArray⟩ := by
  have e : ((s.extract i s.size).extract 14 (14 + m)).data.toList = ((s.data.toList.drop i).drop 14).take m := by
    rw [ext_data, ext_data, ← toList_length s, List.take_length, List.drop_take]
    congr 1
    omega
  have e2 : ((s.extract i s.size).extract 14 (14 + m)).data = (((s.data.toList.drop i).drop 14).take m).toArray := by
    apply Array.toList_inj.1
    rw [e]
  exact congrArg ByteArray.mk e2

/-- What a read at a place answers. -/
def ReadP (s : ByteArray) (i : Nat) (a b c : Int) (d : ByteArray) (q : Int) (v : Bool) : Prop :=
  (frameL (s.data.toList.drop i) = none ∧ v = false) ∨
  ∃ k n m, frameL (s.data.toList.drop i) = some (k, n, m) ∧ a = (k : Nat) ∧ b = (n : Nat) ∧ c = (i : Nat) ∧ d = ⟨(((s.data.toList.drop i).drop 14).take m).toArray⟩ ∧ q = (i + 18 + m : Nat) ∧ v = true
theorem read_calls (s : ByteArray) (i : Int) (h0 : 0 ≤ i) (hi : i ≤ s.size) (hs : s.size ≤ 4611686018427387904) (w : World) :
    Calls Try.prog 36 #[.string s, .int .i64 i] w fun e w' => Below w.heap.size w w' ∧ ∃ (a b c : Int) (d : ByteArray) (q : Int) (v : Bool), ReadP s i.toNat a b c d q v ∧
      e = .returned (.tuple #[.agg #[.int .i64 a, .int .i64 b, .int .i64 c, .string d], .int .i64 q, .bool v]) := by
  obtain ⟨i, rfl⟩ := Int.eq_ofNat_of_zero_le h0
  rw [Int.toNat_natCast]
  have h := read_f s i (by omega) hs
  cases hf : frameL (s.data.toList.drop i) with
  | none =>
    rw [hf] at h
    refine (frame_read.calls 1 s i _ _ _ _ _ _ w h).mono ?_
    rintro e w' ⟨rfl, hb⟩
    exact ⟨hb, _, _, _, _, _, _, .inl ⟨hf, rfl⟩, rfl⟩
  | some x =>
    obtain ⟨k, n, m⟩ := x
    rw [hf] at h
    refine (frame_read.calls 1 s i _ _ _ _ _ _ w h).mono ?_
    rintro e w' ⟨rfl, hb⟩
    exact ⟨hb, _, _, _, _, _, _, .inr ⟨k, n, m, hf, rfl, rfl, rfl, body_eq s i m, rfl, rfl⟩, rfl⟩

/-- What is still to be told, as the variables have it. -/
def Cur (s : ByteArray) (rest : List Seen) (gb : Nat) (v4 v5 : Value) (wr : World) : Prop :=
  ∃ (a b c : Int) (d : ByteArray) (q : Int) (v : Bool), v4 = .int .i64 q ∧ v5 = .bool v ∧ wr.heap[gb]? = some (.cells #[.int .i64 a, .int .i64 b, .int .i64 c, .string d] 49 (0, 0)) ∧
    ((v = false ∧ rest = []) ∨ (v = true ∧ ∃ (x : Seen) (r : List Seen), rest = x :: r ∧ a = x.kind ∧ b = x.number ∧ c = x.at_ ∧ d = ⟨x.body.toArray⟩ ∧ q = x.next ∧ x.next ≤ s.size ∧ x.number < 4294967296 ∧
      r = scanT (s.data.toList.drop x.next) x.next (some x.number)))
theorem readP_scan {s : ByteArray} {i : Nat} {a b c : Int} {d : ByteArray} {q : Int} {v : Bool} (h : ReadP s i a b c d q v) :
    (v = false ∧ ∀ p, scanT (s.data.toList.drop i) i p = []) ∨
    (v = true ∧ ∃ x : Seen, a = x.kind ∧ b = x.number ∧ c = x.at_ ∧ d = ⟨x.body.toArray⟩ ∧ q = x.next ∧ x.next ≤ s.size ∧ x.number < 4294967296 ∧
      ∀ p, scanT (s.data.toList.drop i) i p = if p = none ∨ p.map (· + 1) = some x.number then x :: scanT (s.data.toList.drop x.next) x.next (some x.number) else []) := by
  rcases h with ⟨h1, h2⟩ | ⟨k, n, m, hf, h1, h2, h3, h4, h5, h6⟩
  · exact .inl ⟨h2, fun p => scanT_none h1 i p⟩
  · have hl := (frameL_some hf).2.1
    rw [List.length_drop, toList_length] at hl
    refine .inr ⟨h6, ⟨k, n, i, ((s.data.toList.drop i).drop 14).take m, i + 18 + m⟩, h1, h2, h3, h4, h5, ?_, ?_, fun p => ?_⟩
    · show i + 18 + m ≤ s.size
      omega
    · have := fits_iff.1 (frameL_some hf).1
      show n < _
      omega
    · rw [scanT_some hf]
      have e : (s.data.toList.drop i).drop (18 + m) = s.data.toList.drop (i + 18 + m) := by rw [List.drop_drop]; congr 1; omega
      rw [e]
theorem set4 {w : World} {g t : Nat} {a b c d a' b' c' d' : Value} (h : w.heap[g]? = some (.cells #[a, b, c, d] t (0, 0))) :
    ((((w.setCell ⟨g, 0, none⟩ a').setCell ⟨g, 1, none⟩ b').setCell ⟨g, 2, none⟩ c').setCell ⟨g, 3, none⟩ d').heap[g]? = some (.cells #[a', b', c', d'] t (0, 0)) ∧
    (∀ k, k ≠ g → ((((w.setCell ⟨g, 0, none⟩ a').setCell ⟨g, 1, none⟩ b').setCell ⟨g, 2, none⟩ c').setCell ⟨g, 3, none⟩ d').heap[k]? = w.heap[k]?) ∧
    ((((w.setCell ⟨g, 0, none⟩ a').setCell ⟨g, 1, none⟩ b').setCell ⟨g, 2, none⟩ c').setCell ⟨g, 3, none⟩ d').heap.size = w.heap.size := by
  have h1 := heap_setCell_same w g 0 _ t a' h
  have h2 := heap_setCell_same _ g 1 _ t b' h1
  have h3 := heap_setCell_same _ g 2 _ t c' h2
  have h4 := heap_setCell_same _ g 3 _ t d' h3
  refine ⟨h4, fun k hk => ?_, by simp [World.setCell]⟩
  rw [heap_setCell_other _ _ _ _ hk, heap_setCell_other _ _ _ _ hk, heap_setCell_other _ _ _ _ hk, heap_setCell_other _ _ _ _ hk]
theorem kept_step {w wr w2 : World} {ok okr : Nat → Prop} (h : Kept w wr ok) (h2 : Kept wr w2 okr) (hs : ∀ k, okr k → ok k ∨ w.heap.size ≤ k) : Kept w w2 ok :=
  ⟨Nat.le_trans h.1 h2.1, fun i hi hn => (h2.2 i (Nat.lt_of_lt_of_le hi h.1) (fun ho => by rcases hs i ho with h3 | h3; exact hn h3; omega)).trans (h.2 i hi hn)⟩
theorem sub_step {w wr : World} {ok okr : Nat → Prop} (h : Kept w wr ok) (hs : ∀ k, okr k → ok k ∨ w.heap.size ≤ k) : ∀ k, (okr k ∨ wr.heap.size ≤ k) → ok k ∨ w.heap.size ≤ k :=
  fun k hk => hk.elim (hs k) (fun h3 => .inr (Nat.le_trans h.1 h3))
theorem round_facts {fn : Nat} {caps : Array Value} {base : Nat} {St : List Seen → (Nat → Prop) → World → Prop} {g : List Seen → Seen → Bool} {lim : Nat} (T : Teller fn caps base St g lim) {w wr wr2 wr3 w4 : World} {gb b : Nat} {ok okr : Nat → Prop} {l : List Seen}
    (hgl : gb < wr.heap.size) (hgb : ¬ okr gb) (hbb : ¬ okr b) (hblt : b < w.heap.size) (hg1 : w.heap.size ≤ gb) (hkept : Kept w wr ok) (hbel : Below base w wr) (hbl : Below base wr wr2) (hkp : Kept wr wr2 okr) (hbl3 : Below wr2.heap.size wr2 wr3)
    (ho : ∀ k, k ≠ gb → w4.heap[k]? = wr3.heap[k]?) (hsz : w4.heap.size = wr3.heap.size) (hw4 : Below base wr3 w4) (hbase : base ≤ w.heap.size) (hsub : ∀ k, okr k → ok k ∨ w.heap.size ≤ k) (hst : St l (fun k => okr k ∨ wr.heap.size ≤ k) wr2) :
    St l (fun k => okr k ∨ wr.heap.size ≤ k) w4 ∧ w4.heap[b]? = wr.heap[b]? ∧ Below base w w4 ∧ Kept w w4 ok ∧ ¬ (okr gb ∨ wr.heap.size ≤ gb) ∧ ¬ (okr b ∨ wr.heap.size ≤ b) := by
  have s1 := hkept.1
  have s2 := hkp.1
  have s3 := hbl3.size
  have hne : ∀ k, (okr k ∨ wr.heap.size ≤ k) → k ≠ gb := fun k hk e => by subst e; rcases hk with hk | hk; exact hgb hk; omega
  refine ⟨T.move (fun k hk hl => ?_) (by omega) hst, ?_, (hbel.trans hbl).trans ((hbl3.mono (by omega)).trans hw4), ⟨by omega, fun i hi hn => ?_⟩, ?_, ?_⟩
  · rw [ho k (hne k hk), hbl3.block k hl]
  · rw [ho b (by omega), hbl3.block b (by omega), hkp.2 b (by omega) hbb]
  · rw [ho i (by omega), hbl3.block i (by omega)]
    exact (kept_step hkept hkp hsub).2 i hi hn
  · rintro (h | h)
    · exact hgb h
    · omega
  · rintro (h | h)
    · exact hbb h
    · omega
/-- The head of the loop. -/
structure Head (s : ByteArray) (gb b base : Nat) (ok : Nat → Prop) (w : World) (St : List Seen → (Nat → Prop) → World → Prop) (g : List Seen → Seen → Bool) (n : Nat) (v4 v5 : Value) (done rest : List Seen) (okr : Nat → Prop) (wr : World) : Prop where
  len : rest.length = n
  tot : done ++ rest = scanT s.data.toList 0 none
  all : taken g [] (scanT s.data.toList 0 none) = taken g done rest
  cur : Cur s rest gb v4 v5 wr
  st : St done okr wr
  sub : ∀ k, okr k → ok k ∨ w.heap.size ≤ k
  gb : ¬ okr gb
  bb : ¬ okr b
  cell : wr.heap[b]? = some (.cells #[.string s] 9 (0, 0))
  below : Below base w wr
  kept : Kept w wr ok

set_option maxHeartbeats 1000000 in
theorem scan1_calls (s : ByteArray) (b fn base : Nat) (caps : Array Value) (St : List Seen → (Nat → Prop) → World → Prop) (g : List Seen → Seen → Bool) {lim : Nat} (T : Teller fn caps base St g lim)
    (hs : s.size ≤ 4611686018427387904) (hlim : (scanT s.data.toList 0 none).length ≤ lim) (ok : Nat → Prop) (w : World) (hb : w.heap[b]? = some (.cells #[.string s] 9 (0, 0))) (hok : ¬ ok b) (hlt : ∀ k, ok k → k < w.heap.size) (hbase : base ≤ w.heap.size) (h0 : St [] ok w) :
    Calls Try.prog 35 #[.func (.func fn) #[] caps, .pointer (some ⟨b, 0, none⟩)] w fun e w' => e = .returned (.tuple #[]) ∧
      St (taken g [] (scanT s.data.toList 0 none)) (fun k => ok k ∨ w.heap.size ≤ k) w' ∧ Below base w w' ∧ Kept w w' ok := by
  have hc : w.cell? ⟨b, 0, none⟩ = some (.string s) := by simp [World.cell?, hb]
  have hblt : b < w.heap.size := (Array.getElem?_eq_some_iff.1 hb).1
  have HB := Lib.hid hb
  have HOK := Lib.hid hok
  have HLT := Lib.hid hlt
  have H0 := Lib.hid h0
  clear hb hok hlt h0
  go_enter Try.func35, Try.ntmps35
  go_wp2_with fail
  refine (read_calls s 0 (by omega) (by omega) hs _).mono ?_
  rintro e w1 ⟨hbel, a0, b0, c0, d0, q0, v0, hr0, rfl⟩
  have HR := Lib.hid hr0
  clear hr0
  go_wp2_with fail
  have hsz := hbel.size
  go_loopg [4, 5] (scanT s.data.toList 0 none).length (fun n v4 v5 wr => ∃ done rest okr, Head s w1.heap.size b base ok w St g n v4 v5 done rest okr wr)
  case atStart =>
    have hb1 : w1.heap[b]? = some (.cells #[.string s] 9 (0, 0)) := (hbel.block b hblt).trans HB.out
    have hsz2 : (w1.alloc (.cells #[.int .i64 a0, .int .i64 b0, .int .i64 c0, .string d0] 49)).heap.size = w1.heap.size + 1 := by simp
    refine ⟨[], scanT s.data.toList 0 none, ok, ⟨rfl, rfl, rfl, ⟨a0, b0, c0, d0, q0, v0, rfl, rfl, heap_alloc_new _ _, ?_⟩, ?_, fun k hk => .inl hk, ?_, HOK.out, ?_, ?_, ?_⟩⟩
    · rcases readP_scan HR.out with ⟨h1, h2⟩ | ⟨h1, x, e1, e2, e3, e4, e5, e6, e7, h2⟩
      · exact .inl ⟨h1, by simpa using h2 none⟩
      · refine .inr ⟨h1, x, _, ?_, e1, e2, e3, e4, e5, e6, e7, rfl⟩
        have := h2 none
        simpa using this
    · exact T.move (fun k _ hl => by rw [Below.heap_alloc _ _ _ (by omega), hbel.block k hl]) (by omega) H0.out
    · intro h; have := HLT.out _ h; omega
    · rw [Below.heap_alloc _ _ _ (by omega)]; exact hb1
    · exact (hbel.mono hbase).alloc (by omega) _
    · exact ⟨by omega, fun i hi _ => by rw [Below.heap_alloc _ _ _ (by omega), hbel.block i hi]⟩
  case round =>
    obtain ⟨done, rest, okr, H0⟩ := hrel
    obtain ⟨a, b', c, d, q, v, rfl, rfl, hbox, hor⟩ := H0.cur
    have H := Lib.hid H0
    clear H0
    rcases hor with ⟨rfl, rfl⟩ | ⟨rfl, x, r, rfl, rfl, rfl, rfl, rfl, rfl, hx, hxn, hr⟩
    · clear hbox
      go_wp2
      go_end0
      refine ⟨rfl, ?_, H.out.below, H.out.kept⟩
      rw [H.out.all]
      exact T.mono H.out.sub H.out.st
    · have HX := Lib.hid hbox
      have HRR := Lib.hid hr
      have k0 : wr.cell? ⟨w1.heap.size, 0, none⟩ = some (.int .i64 x.kind) := cell_of_row wr _ 0 _ _ _ hbox
      have k1 : wr.cell? ⟨w1.heap.size, 1, none⟩ = some (.int .i64 x.number) := cell_of_row wr _ 1 _ _ _ hbox
      have k2 : wr.cell? ⟨w1.heap.size, 2, none⟩ = some (.int .i64 x.at_) := cell_of_row wr _ 2 _ _ _ hbox
      have k3 : wr.cell? ⟨w1.heap.size, 3, none⟩ = some (.string ⟨x.body.toArray⟩) := cell_of_row wr _ 3 _ _ _ hbox
      clear hbox hr
      have hent := T.entry
      go_wp2_with fail
      clear hent k0 k1 k2 k3
      have hdl : done.length < lim := by
        have h1 := hlim
        rw [← H.out.tot, List.length_append, List.length_cons] at h1
        omega
      refine (T.step done x okr wr hdl (Nat.le_trans hbase H.out.below.size) H.out.st).mono ?_
      rintro e wr2 ⟨rfl, hst, hbl, hkp⟩
      have hbox2 : wr2.heap[w1.heap.size]? = some (.cells #[.int .i64 x.kind, .int .i64 x.number, .int .i64 x.at_, .string ⟨x.body.toArray⟩] 49 (0, 0)) :=
        (hkp.2 _ (Array.getElem?_eq_some_iff.1 HX.out).1 H.out.gb).trans HX.out
      have hcs2 : wr2.heap[b]? = some (.cells #[.string s] 9 (0, 0)) := (hkp.2 _ (Nat.lt_of_lt_of_le hblt H.out.kept.1) H.out.bb).trans H.out.cell
      have k1 : wr2.cell? ⟨w1.heap.size, 1, none⟩ = some (.int .i64 x.number) := cell_of_row wr2 _ 1 _ _ _ hbox2
      have ks : wr2.cell? ⟨b, 0, none⟩ = some (.string s) := cell_of_row wr2 _ 0 _ _ _ hcs2
      have HBOX := Lib.hid hbox2
      have HCS := Lib.hid hcs2
      have HST := Lib.hid hst
      clear hbox2 hcs2 hst
      cases hg : g done x with
      | false =>
        have HG := Lib.hid hg
        clear hg
        go_wp2
        refine bodyPost_ret (v := .tuple #[]) (by simp [results, Try.results35, go_sem]) rfl ⟨rfl, ?_, H.out.below.trans hbl, kept_step H.out.kept hkp H.out.sub⟩
        rw [H.out.all]
        simp only [taken, HG.out, Bool.false_eq_true, if_false]
        exact T.mono (sub_step H.out.kept H.out.sub) HST.out
      | true =>
        have HG := Lib.hid hg
        clear hg
        go_wp2_with fail
        refine (read_calls s x.next (by omega) (by omega) hs _).mono ?_
        rintro e wr3 ⟨hbl3, a3, b3, c3, d3, q3, v3, hr3, rfl⟩
        rw [Int.toNat_natCast] at hr3
        have HR3 := Lib.hid (readP_scan hr3)
        clear hr3 k1 ks
        have hbox3 : wr3.heap[w1.heap.size]? = some (.cells #[.int .i64 x.kind, .int .i64 x.number, .int .i64 x.at_, .string ⟨x.body.toArray⟩] 49 (0, 0)) :=
          (hbl3.block _ (Array.getElem?_eq_some_iff.1 HBOX.out).1).trans HBOX.out
        have k0 : wr3.cell? ⟨w1.heap.size, 0, none⟩ = some (.int .i64 x.kind) := cell_of_row wr3 _ 0 _ _ _ hbox3
        have k1 : wr3.cell? ⟨w1.heap.size, 1, none⟩ = some (.int .i64 x.number) := cell_of_row wr3 _ 1 _ _ _ hbox3
        have k2 : wr3.cell? ⟨w1.heap.size, 2, none⟩ = some (.int .i64 x.at_) := cell_of_row wr3 _ 2 _ _ _ hbox3
        have k3 : wr3.cell? ⟨w1.heap.size, 3, none⟩ = some (.string ⟨x.body.toArray⟩) := cell_of_row wr3 _ 3 _ _ _ hbox3
        have f0 : wr3.frozen? ⟨w1.heap.size, 0, none⟩ = false := frozen_of_row wr3 _ 0 _ _ hbox3
        have f1 : wr3.frozen? ⟨w1.heap.size, 1, none⟩ = false := frozen_of_row wr3 _ 1 _ _ hbox3
        have f2 : wr3.frozen? ⟨w1.heap.size, 2, none⟩ = false := frozen_of_row wr3 _ 2 _ _ hbox3
        have f3 : wr3.frozen? ⟨w1.heap.size, 3, none⟩ = false := frozen_of_row wr3 _ 3 _ _ hbox3
        have HBOX3 := Lib.hid hbox3
        clear hbox3
        have hlen : gk = r.length + 1 := by have := H.out.len; simp at this; omega
        have HLEN := Lib.hid hlen
        clear hlen
        have hall : taken g [] (scanT s.data.toList 0 none) = taken g (done ++ [x]) r := by
          rw [H.out.all]
          simp only [taken, HG.out, if_true]
        have HALL := Lib.hid hall
        clear hall
        cases v3 with
        | false =>
          have hnil : r = [] := by
            rcases HR3.out with ⟨_, h⟩ | ⟨h, _⟩
            · rw [HRR.out, h]
            · exact absurd h (by simp)
          have HNIL := Lib.hid hnil
          clear hnil
          go_wp2
          go_roundg r.length
          case measure => have := HLEN.out; omega
          case rel =>
            obtain ⟨hh, ho, hsz4⟩ := set4 (a' := .int .i64 a3) (b' := .int .i64 b3) (c' := .int .i64 c3) (d' := .string d3) HBOX3.out
            have hg1 : w.heap.size ≤ w1.heap.size := hsz
            have hw4 := (((((Below.refl base wr3).setCell (p := ⟨w1.heap.size, 0, none⟩) (by simp; omega) (.int .i64 a3)).setCell (p := ⟨w1.heap.size, 1, none⟩) (by simp; omega) (.int .i64 b3)).setCell (p := ⟨w1.heap.size, 2, none⟩) (by simp; omega) (.int .i64 c3)).setCell (p := ⟨w1.heap.size, 3, none⟩) (by simp; omega) (.string d3))
            obtain ⟨f1, f2, f3, f4, f5, f6⟩ := round_facts T (Array.getElem?_eq_some_iff.1 HX.out).1 H.out.gb H.out.bb hblt hg1 H.out.kept H.out.below hbl hkp hbl3 ho hsz4 hw4 hbase H.out.sub HST.out
            exact ⟨done ++ [x], r, fun k => okr k ∨ wr.heap.size ≤ k, ⟨rfl, by rw [← H.out.tot]; simp, HALL.out, ⟨a3, b3, c3, d3, q3, false, rfl, rfl, hh, .inl ⟨rfl, HNIL.out⟩⟩, f1, sub_step H.out.kept H.out.sub, f5, f6, f2.trans H.out.cell, f3, f4⟩⟩
        | true =>
          go_wp2
          go_roundg r.length
          case measure => have := HLEN.out; omega
          case rel =>
            obtain ⟨hh, ho, hsz4⟩ := set4 (a' := .int .i64 a3) (b' := .int .i64 b3) (c' := .int .i64 c3) (d' := .string d3) HBOX3.out
            have hg1 : w.heap.size ≤ w1.heap.size := hsz
            have hw4 := (((((Below.refl base wr3).setCell (p := ⟨w1.heap.size, 0, none⟩) (by simp; omega) (.int .i64 a3)).setCell (p := ⟨w1.heap.size, 1, none⟩) (by simp; omega) (.int .i64 b3)).setCell (p := ⟨w1.heap.size, 2, none⟩) (by simp; omega) (.int .i64 c3)).setCell (p := ⟨w1.heap.size, 3, none⟩) (by simp; omega) (.string d3))
            obtain ⟨f1, f2, f3, f4, f5, f6⟩ := round_facts T (Array.getElem?_eq_some_iff.1 HX.out).1 H.out.gb H.out.bb hblt hg1 H.out.kept H.out.below hbl hkp hbl3 ho hsz4 hw4 hbase H.out.sub HST.out
            refine ⟨done ++ [x], r, fun k => okr k ∨ wr.heap.size ≤ k, ⟨rfl, by rw [← H.out.tot]; simp, HALL.out, ⟨a3, b3, c3, d3, q3, (b3 == (x.number : Int) + 1), rfl, rfl, hh, ?_⟩, f1, sub_step H.out.kept H.out.sub, f5, f6, f2.trans H.out.cell, f3, f4⟩⟩
            rcases HR3.out with ⟨h, _⟩ | ⟨_, y, e1, e2, e3, e4, e5, e6, e7, h⟩
            · exact absurd h (by simp)
            · have hr := HRR.out
              rw [h] at hr
              by_cases hq : x.number + 1 = y.number
              · rw [if_pos (.inr (by simp [hq]))] at hr
                exact .inr ⟨by rw [e2]; simp; omega, y, _, hr, e1, e2, e3, e4, e5, e6, e7, rfl⟩
              · rw [if_neg (by simp [hq])] at hr
                exact .inl ⟨by rw [e2]; simp; omega, hr⟩
end Go.Proofs.Ytcndhgpaoihblaa.Fr
