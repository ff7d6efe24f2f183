/- FrameScans' own round through an iterator. -/
import Derived.Test.YtcndhgpaoihblaaGt
namespace Go.Proofs.Ytcndhgpaoihblaa.Fr
open Go.RowKit Go.Proofs.YtcndhgpaoihblaaW.PrintWords
open Plain Crc
theorem told_true : ∀ (rest done : List Seen), told (fun _ => true) done rest = done ++ rest
  | [], done => by simp [told]
  | x :: r, done => by
    unfold told
    rw [if_pos rfl, told_true r (done ++ [x])]
    simp
def RSt (z bi : Nat) (si : ByteArray) (l : List Seen) (w : World) : Prop := w.heap[z]? = some (.cells #[.int .i64 (l.length : Nat)] 3 (0, 0)) ∧ w.heap[z + 1]? = some (.cells #[.bool true] 4 (0, 0)) ∧ w.heap[bi]? = some (.cells #[.string si] 9 (0, 0))
/-- What stands for a round: all below w0's end. -/
structure Rnd (wb pb tb ib jb xb mb bi bj : Nat) (si sj : ByteArray) (A3 A4 A5 A6 : Option Addr) (aI : Addr) (c3 c4 c5 c6 cI m i j : Nat) (w0 : World) : Prop where
  w_ : w0.heap[wb]? = some (.cells #[.slice A3 (scanT si.data.toList 0 none).length c3] 43 (0, 0))
  p : w0.heap[pb]? = some (.cells #[.slice A4 (scanT si.data.toList 0 none).length c4] 44 (0, 0))
  t : w0.heap[tb]? = some (.cells #[.slice (some aI) m cI] 39 (0, 0))
  i_ : w0.heap[ib]? = some (.cells #[.int .i64 (i : Nat)] 3 (0, 0))
  j_ : w0.heap[jb]? = some (.cells #[.int .i64 (j : Nat)] 3 (0, 0))
  x_ : w0.heap[xb]? = some (.cells #[.slice A5 (scanT sj.data.toList 0 none).length c5] 43 (0, 0))
  m_ : w0.heap[mb]? = some (.cells #[.slice A6 (scanT sj.data.toList 0 none).length c6] 44 (0, 0))
  im : i < m
  jm : j < m
  ci : w0.cell? (aI.add i) = some (.func (.func 35) #[] #[.pointer (some ⟨bi, 0, none⟩)])
  cj : w0.cell? (aI.add j) = some (.func (.func 35) #[] #[.pointer (some ⟨bj, 0, none⟩)])
  ti : w0.heap[bi]? = some (.cells #[.string si] 9 (0, 0))
  tj : w0.heap[bj]? = some (.cells #[.string sj] 9 (0, 0))
  C3 : Kd.C k49 w0 A3 (scanT si.data.toList 0 none).length ((scanT si.data.toList 0 none).map s49)
  C4 : Kd.C (Kd.int .i64) w0 A4 (scanT si.data.toList 0 none).length ((scanT si.data.toList 0 none).map nx)
  C5 : Kd.C k49 w0 A5 (scanT sj.data.toList 0 none).length ((scanT sj.data.toList 0 none).map s49)
  C6 : Kd.C (Kd.int .i64) w0 A6 (scanT sj.data.toList 0 none).length ((scanT sj.data.toList 0 none).map nx)
theorem round_tel {wb pb tb ib jb xb mb bi bj : Nat} {si sj : ByteArray} {A3 A4 A5 A6 : Option Addr} {aI : Addr} {c3 c4 c5 c6 cI m i j : Nat} {w0 : World} (R : Rnd wb pb tb ib jb xb mb bi bj si sj A3 A4 A5 A6 aI c3 c4 c5 c6 cI m i j w0)
    (hsi : si.size ≤ 1099511627776) (hsj : sj.size ≤ 1099511627776) (wz : World) (hbz : Below w0.heap.size w0 wz) :
    Tel wz (w0.heap.size + 2) w0.heap.size bi si (scanT si.data.toList 0 none) 24 #[.pointer (some ⟨w0.heap.size + 1, 0, none⟩), .pointer (some ⟨w0.heap.size, 0, none⟩), .pointer (some ⟨wb, 0, none⟩), .pointer (some ⟨pb, 0, none⟩), .pointer (some ⟨tb, 0, none⟩), .pointer (some ⟨ib, 0, none⟩), .pointer (some ⟨jb, 0, none⟩), .pointer (some ⟨xb, 0, none⟩), .pointer (some ⟨mb, 0, none⟩)]
      (RSt w0.heap.size bi si) (fun _ => true) where
  move := by
    intro l w w' hm h
    have hlt := (Array.getElem?_eq_some_iff.1 R.ti).1
    exact ⟨(hm _ (by omega)).trans h.1, (hm _ (by omega)).trans h.2.1, (hm _ (by omega)).trans h.2.2⟩
  entry := fun args w => by kernel_rfl
  text := fun h => h.2.2
  step := by
    intro l x r w htot _ hlim hb h
    have hlt := (Array.getElem?_eq_some_iff.1 R.ti).1
    have hlen : l.length < (scanT si.data.toList 0 none).length := by rw [← htot, List.length_append, List.length_cons]; omega
    have hx : (scanT si.data.toList 0 none)[l.length]? = some x := by rw [← htot, List.getElem?_append_right (Nat.le_refl _), Nat.sub_self]; rfl
    refine (scans1_calls wb pb tb ib jb xb mb bi bj si sj A3 A4 A5 A6 aI c3 c4 c5 c6 cI m i j l.length x w0 w hsi hsj (hbz.trans hb) h.1 h.2.1 R.w_ R.p R.t R.i_ R.j_ R.x_ R.m_ R.im R.jm R.ci R.cj R.ti R.tj R.C3 R.C4 R.C5 R.C6 hlen hx).mono ?_
    rintro e w' ⟨rfl, g1, g2, g3, g4⟩
    refine ⟨rfl, ⟨by rw [g1, List.length_append, List.length_singleton], g2, (g3.block _ hlt).trans h.2.2⟩, g3, fun k h1 h2 => g4 k h1 h2⟩
theorem round_calls {wb pb tb ib jb xb mb bi bj : Nat} {si sj : ByteArray} {A3 A4 A5 A6 : Option Addr} {aI : Addr} {c3 c4 c5 c6 cI m i j : Nat} {w0 : World} (R : Rnd wb pb tb ib jb xb mb bi bj si sj A3 A4 A5 A6 aI c3 c4 c5 c6 cI m i j w0)
    (hsi : si.size ≤ 1099511627776) (hsj : sj.size ≤ 1099511627776) (wz : World) (hbz : Below w0.heap.size w0 wz) (hz : wz.heap.size = w0.heap.size + 2) (hn : wz.heap[w0.heap.size]? = some (.cells #[.int .i64 0] 3 (0, 0))) (hr : wz.heap[w0.heap.size + 1]? = some (.cells #[.bool true] 4 (0, 0))) :
    Calls Try.prog 35 #[.func (.func 24) #[] #[.pointer (some ⟨w0.heap.size + 1, 0, none⟩), .pointer (some ⟨w0.heap.size, 0, none⟩), .pointer (some ⟨wb, 0, none⟩), .pointer (some ⟨pb, 0, none⟩), .pointer (some ⟨tb, 0, none⟩), .pointer (some ⟨ib, 0, none⟩), .pointer (some ⟨jb, 0, none⟩), .pointer (some ⟨xb, 0, none⟩), .pointer (some ⟨mb, 0, none⟩)], .pointer (some ⟨bi, 0, none⟩)] wz fun e w' =>
      e = .returned (.tuple #[]) ∧ w'.heap[w0.heap.size]? = some (.cells #[.int .i64 ((scanT si.data.toList 0 none).length : Nat)] 3 (0, 0)) ∧ w'.heap[w0.heap.size + 1]? = some (.cells #[.bool true] 4 (0, 0)) ∧ Below w0.heap.size wz w' := by
  have T := round_tel R hsi hsj wz hbz
  have hlt := (Array.getElem?_eq_some_iff.1 R.ti).1
  refine (scanq_calls si bi 24 w0.heap.size _ (RSt w0.heap.size bi si) (fun _ => true) wz (by rw [hz]; exact T) (by omega) (by omega) ⟨hn, hr, (hbz.block _ hlt).trans R.ti⟩).mono ?_
  rintro e w' ⟨rfl, h1, h2⟩
  rw [told_true, List.nil_append] at h1
  exact ⟨rfl, h1.1, h1.2.1, h2⟩
end Go.Proofs.Ytcndhgpaoihblaa.Fr
