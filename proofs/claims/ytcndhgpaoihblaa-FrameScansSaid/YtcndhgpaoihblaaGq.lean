/- The iterator of frame.Scan again: what it does with a teller that touches nothing but its own old blocks, and is told no frame but the text's own, each behind those that it took. -/
import Derived.Test.YtcndhgpaoihblaaScan
namespace Go.Proofs.Ytcndhgpaoihblaa.Fr
open Go.RowKit Go.Proofs.YtcndhgpaoihblaaW.PrintWords
open Plain Crc
/-- A teller of the frames F of the text s in block b: its state lies in blocks below lim; those from lim on that it finds it lets be. -/
structure Tel (w0 : World) (lim base b : Nat) (s : ByteArray) (F : List Seen) (fn : Nat) (caps : Array Value) (St : List Seen → World → Prop) (g : List Seen → Bool) : Prop where
  move : ∀ {l w w'}, (∀ k, k < lim → w'.heap[k]? = w.heap[k]?) → St l w → St l w'
  entry : ∀ (args : Array Value) (w : World), Sem.run Try.prog (callFunc fn args) w = .ok (.enter fn args) w
  text : ∀ {l w}, St l w → w.heap[b]? = some (.cells #[.string s] 9 (0, 0))
  step : ∀ (l : List Seen) (x : Seen) (r : List Seen) (w : World), l ++ x :: r = F → (∀ m, 0 < m → m ≤ l.length → g (l.take m) = true) → lim ≤ w.heap.size → Below base w0 w → St l w →
    Calls Try.prog fn (#[.int .i64 x.next, .agg #[.int .i64 x.kind, .int .i64 x.number, .int .i64 x.at_, .string ⟨x.body.toArray⟩]] ++ caps) w fun e w' => e = .returned (.bool (g (l ++ [x]))) ∧ St (l ++ [x]) w' ∧ Below base w w' ∧ ∀ k, lim ≤ k → k < w.heap.size → w'.heap[k]? = w.heap[k]?
/-- What it is told: up to the first that it does not take. -/
def told (g : List Seen → Bool) : List Seen → List Seen → List Seen
  | done, [] => done
  | done, x :: r => if g (done ++ [x]) = true then told g (done ++ [x]) r else done ++ [x]
/-- The head of the loop. -/
structure QHead (s : ByteArray) (gb lim base : Nat) (w : World) (F : List Seen) (St : List Seen → World → Prop) (g : List Seen → Bool) (n : Nat) (v4 v5 : Value) (done rest : List Seen) (wr : World) : Prop where
  len : rest.length = n
  tot : done ++ rest = F
  all : told g [] F = told g done rest
  tru : ∀ m, 0 < m → m ≤ done.length → g (done.take m) = true
  cur : Cur s rest gb v4 v5 wr
  st : St done wr
  size : lim ≤ wr.heap.size
  below : Below base w wr
theorem tru_snoc {g : List Seen → Bool} {done : List Seen} {x : Seen} (h : ∀ m, 0 < m → m ≤ done.length → g (done.take m) = true) (hg : g (done ++ [x]) = true) : ∀ m, 0 < m → m ≤ (done ++ [x]).length → g ((done ++ [x]).take m) = true := by
  intro m h0 hm
  rw [List.length_append, List.length_singleton] at hm
  by_cases e : m = done.length + 1
  · rw [List.take_of_length_le (by rw [List.length_append, List.length_singleton]; omega)]; exact hg
  · rw [List.take_append_of_le_length (by omega)]; exact h m h0 (by omega)
set_option maxHeartbeats 1000000 in
theorem scanq_calls (s : ByteArray) (b fn base : Nat) (caps : Array Value) (St : List Seen → World → Prop) (g : List Seen → Bool) (w : World) (T : Tel w w.heap.size base b s (scanT s.data.toList 0 none) fn caps St g)
    (hs : s.size ≤ 4611686018427387904) (hbase : base ≤ w.heap.size) (h0 : St [] w) :
    Calls Try.prog 35 #[.func (.func fn) #[] caps, .pointer (some ⟨b, 0, none⟩)] w fun e w' => e = .returned (.tuple #[]) ∧
      St (told g [] (scanT s.data.toList 0 none)) w' ∧ Below base w w' := by
  have hc : w.cell? ⟨b, 0, none⟩ = some (.string s) := cell_of_row w _ 0 _ _ _ (T.text h0)
  have H0 := Lib.hid h0
  clear h0
  go_enter Try.func35, Try.ntmps35
  go_wp2_with fail
  refine (read_calls s 0 (by omega) (by omega) hs _).mono ?_
  rintro e w1 ⟨hbel, a0, b0, c0, d0, q0, v0, hr0, rfl⟩
  have HR := Lib.hid hr0
  clear hr0
  go_wp2_with fail
  have hsz := hbel.size
  go_loopg [4, 5] (scanT s.data.toList 0 none).length (fun n v4 v5 wr => ∃ done rest, QHead s w1.heap.size w.heap.size base w (scanT s.data.toList 0 none) St g n v4 v5 done rest wr)
  case atStart =>
    refine ⟨[], scanT s.data.toList 0 none, ⟨rfl, rfl, rfl, fun m h1 h2 => by simp at h2; omega, ⟨a0, b0, c0, d0, q0, v0, rfl, rfl, heap_alloc_new _ _, ?_⟩, ?_, by simp; omega, (hbel.mono hbase).alloc (by omega) _⟩⟩
    · rcases readP_scan HR.out with ⟨h1, h2⟩ | ⟨h1, x, e1, e2, e3, e4, e5, e6, e7, h2⟩
      · exact .inl ⟨h1, by simpa using h2 none⟩
      · refine .inr ⟨h1, x, _, ?_, e1, e2, e3, e4, e5, e6, e7, rfl⟩
        have := h2 none
        simpa using this
    · exact T.move (fun k hl => by rw [Below.heap_alloc _ _ _ (by omega), hbel.block k hl]) H0.out
  case round =>
    obtain ⟨done, rest, H0⟩ := hrel
    obtain ⟨a, b', c, d, q, v, rfl, rfl, hbox, hor⟩ := H0.cur
    have H := Lib.hid H0
    clear H0
    rcases hor with ⟨rfl, rfl⟩ | ⟨rfl, x, r, rfl, rfl, rfl, rfl, rfl, rfl, hx, hxn, hr⟩
    · clear hbox
      go_wp2
      go_end0
      refine ⟨rfl, ?_, H.out.below⟩
      rw [H.out.all]
      exact H.out.st
    · have HX := Lib.hid hbox
      have HRR := Lib.hid hr
      have k0 : wr.cell? ⟨w1.heap.size, 0, none⟩ = some (.int .i64 x.kind) := cell_of_row wr _ 0 _ _ _ hbox
      have k1 : wr.cell? ⟨w1.heap.size, 1, none⟩ = some (.int .i64 x.number) := cell_of_row wr _ 1 _ _ _ hbox
      have k2 : wr.cell? ⟨w1.heap.size, 2, none⟩ = some (.int .i64 x.at_) := cell_of_row wr _ 2 _ _ _ hbox
      have k3 : wr.cell? ⟨w1.heap.size, 3, none⟩ = some (.string ⟨x.body.toArray⟩) := cell_of_row wr _ 3 _ _ _ hbox
      clear hbox hr
      have hent := T.entry
      go_wp2_with fail
      clear hent k0 k1 k2 k3
      refine (T.step done x r wr H.out.tot H.out.tru H.out.size H.out.below H.out.st).mono ?_
      rintro e wr2 ⟨rfl, hst, hbl, hkp⟩
      have hlt1 : w1.heap.size < wr.heap.size := (Array.getElem?_eq_some_iff.1 HX.out).1
      have hbox2 : wr2.heap[w1.heap.size]? = some (.cells #[.int .i64 x.kind, .int .i64 x.number, .int .i64 x.at_, .string ⟨x.body.toArray⟩] 49 (0, 0)) :=
        (hkp _ hsz hlt1).trans HX.out
      have k1 : wr2.cell? ⟨w1.heap.size, 1, none⟩ = some (.int .i64 x.number) := cell_of_row wr2 _ 1 _ _ _ hbox2
      have ks : wr2.cell? ⟨b, 0, none⟩ = some (.string s) := cell_of_row wr2 _ 0 _ _ _ (T.text hst)
      have HBOX := Lib.hid hbox2
      have HST := Lib.hid hst
      have hsz2 : wr.heap.size ≤ wr2.heap.size := hbl.size
      have HSZ := Lib.hid H.out.size
      clear hbox2 hst hkp
      cases hg : g (done ++ [x]) with
      | false =>
        have HG := Lib.hid hg
        clear hg
        go_wp2
        refine bodyPost_ret (v := .tuple #[]) (by simp [results, Try.results35, go_sem]) rfl ⟨rfl, ?_, H.out.below.trans hbl⟩
        rw [H.out.all]
        simp only [told, HG.out, Bool.false_eq_true, if_false]
        exact HST.out
      | true =>
        have HG := Lib.hid hg
        clear hg
        go_wp2_with fail
        refine (read_calls s x.next (by omega) (by omega) hs _).mono ?_
        rintro e wr3 ⟨hbl3, a3, b3, c3, d3, q3, v3, hr3, rfl⟩
        rw [Int.toNat_natCast] at hr3
        have HR3 := Lib.hid (readP_scan hr3)
        clear hr3 k1 ks
        have hbox3 : wr3.heap[w1.heap.size]? = some (.cells #[.int .i64 x.kind, .int .i64 x.number, .int .i64 x.at_, .string ⟨x.body.toArray⟩] 49 (0, 0)) :=
          (hbl3.block _ (Array.getElem?_eq_some_iff.1 HBOX.out).1).trans HBOX.out
        have k0 : wr3.cell? ⟨w1.heap.size, 0, none⟩ = some (.int .i64 x.kind) := cell_of_row wr3 _ 0 _ _ _ hbox3
        have k1 : wr3.cell? ⟨w1.heap.size, 1, none⟩ = some (.int .i64 x.number) := cell_of_row wr3 _ 1 _ _ _ hbox3
        have k2 : wr3.cell? ⟨w1.heap.size, 2, none⟩ = some (.int .i64 x.at_) := cell_of_row wr3 _ 2 _ _ _ hbox3
        have k3 : wr3.cell? ⟨w1.heap.size, 3, none⟩ = some (.string ⟨x.body.toArray⟩) := cell_of_row wr3 _ 3 _ _ _ hbox3
        have f0 : wr3.frozen? ⟨w1.heap.size, 0, none⟩ = false := frozen_of_row wr3 _ 0 _ _ hbox3
        have f1 : wr3.frozen? ⟨w1.heap.size, 1, none⟩ = false := frozen_of_row wr3 _ 1 _ _ hbox3
        have f2 : wr3.frozen? ⟨w1.heap.size, 2, none⟩ = false := frozen_of_row wr3 _ 2 _ _ hbox3
        have f3 : wr3.frozen? ⟨w1.heap.size, 3, none⟩ = false := frozen_of_row wr3 _ 3 _ _ hbox3
        have HBOX3 := Lib.hid hbox3
        clear hbox3
        have hlen : gk = r.length + 1 := by have := H.out.len; simp at this; omega
        have HLEN := Lib.hid hlen
        clear hlen
        have hall : told g [] (scanT s.data.toList 0 none) = told g (done ++ [x]) r := by
          rw [H.out.all]
          simp only [told, HG.out, if_true]
        have HALL := Lib.hid hall
        clear hall
        have HB4 := Lib.hid (show Below base w (((((wr3.setCell ⟨w1.heap.size, 0, none⟩ (.int .i64 a3)).setCell ⟨w1.heap.size, 1, none⟩ (.int .i64 b3)).setCell ⟨w1.heap.size, 2, none⟩ (.int .i64 c3)).setCell ⟨w1.heap.size, 3, none⟩ (.string d3))) from
          (((((H.out.below.trans hbl).trans (hbl3.mono (by omega))).setCell (p := ⟨w1.heap.size, 0, none⟩) (by simp; omega) _).setCell (p := ⟨w1.heap.size, 1, none⟩) (by simp; omega) _).setCell (p := ⟨w1.heap.size, 2, none⟩) (by simp; omega) _).setCell (p := ⟨w1.heap.size, 3, none⟩) (by simp; omega) _)
        have hst4 : St (done ++ [x]) (((((wr3.setCell ⟨w1.heap.size, 0, none⟩ (.int .i64 a3)).setCell ⟨w1.heap.size, 1, none⟩ (.int .i64 b3)).setCell ⟨w1.heap.size, 2, none⟩ (.int .i64 c3)).setCell ⟨w1.heap.size, 3, none⟩ (.string d3))) := by
          obtain ⟨_, ho, _⟩ := set4 (a' := .int .i64 a3) (b' := .int .i64 b3) (c' := .int .i64 c3) (d' := .string d3) HBOX3.out
          exact T.move (fun k hk => by rw [ho k (by omega), hbl3.block k (by omega)]) HST.out
        have HST4 := Lib.hid hst4
        have hsz4 : w.heap.size ≤ (((((wr3.setCell ⟨w1.heap.size, 0, none⟩ (.int .i64 a3)).setCell ⟨w1.heap.size, 1, none⟩ (.int .i64 b3)).setCell ⟨w1.heap.size, 2, none⟩ (.int .i64 c3)).setCell ⟨w1.heap.size, 3, none⟩ (.string d3))).heap.size := by
          have := hbl3.size
          simp [World.setCell]; omega
        have HSZ4 := Lib.hid hsz4
        clear hst4 hsz4
        cases v3 with
        | false =>
          have hnil : r = [] := by
            rcases HR3.out with ⟨_, h⟩ | ⟨h, _⟩
            · rw [HRR.out, h]
            · exact absurd h (by simp)
          have HNIL := Lib.hid hnil
          clear hnil
          go_wp2
          go_roundg r.length
          case measure => have := HLEN.out; omega
          case rel =>
            obtain ⟨hh, _, _⟩ := set4 (a' := .int .i64 a3) (b' := .int .i64 b3) (c' := .int .i64 c3) (d' := .string d3) HBOX3.out
            exact ⟨done ++ [x], r, ⟨rfl, by rw [← H.out.tot]; simp, HALL.out, tru_snoc H.out.tru HG.out, ⟨a3, b3, c3, d3, q3, false, rfl, rfl, hh, .inl ⟨rfl, HNIL.out⟩⟩, HST4.out, HSZ4.out, HB4.out⟩⟩
        | true =>
          go_wp2
          go_roundg r.length
          case measure => have := HLEN.out; omega
          case rel =>
            obtain ⟨hh, _, _⟩ := set4 (a' := .int .i64 a3) (b' := .int .i64 b3) (c' := .int .i64 c3) (d' := .string d3) HBOX3.out
            refine ⟨done ++ [x], r, ⟨rfl, by rw [← H.out.tot]; simp, HALL.out, tru_snoc H.out.tru HG.out, ⟨a3, b3, c3, d3, q3, (b3 == (x.number : Int) + 1), rfl, rfl, hh, ?_⟩, HST4.out, HSZ4.out, HB4.out⟩⟩
            rcases HR3.out with ⟨h, _⟩ | ⟨_, y, e1, e2, e3, e4, e5, e6, e7, h⟩
            · exact absurd h (by simp)
            · have hr := HRR.out
              rw [h] at hr
              by_cases hq : x.number + 1 = y.number
              · rw [if_pos (.inr (by simp [hq]))] at hr
                exact .inr ⟨by rw [e2]; simp; omega, y, _, hr, e1, e2, e3, e4, e5, e6, e7, rfl⟩
              · rw [if_neg (by simp [hq])] at hr
                exact .inl ⟨by rw [e2]; simp; omega, hr⟩
end Go.Proofs.Ytcndhgpaoihblaa.Fr
