/- goes: of a text's own iterator, frames and places it answers true. -/
import Derived.Test.YtcndhgpaoihblaaGr
namespace Go.Proofs.Ytcndhgpaoihblaa.Fr
open Go.RowKit Go.Proofs.YtcndhgpaoihblaaW.PrintWords
open Plain Crc
def overB (stop : Int) (l : List Seen) : Bool := decide (0 < l.length) && ((l.length : Int) == stop)
def goesB (stop : Int) (l : List Seen) : Bool := !((l.length : Int) == stop)
/-- The blocks of goes, from z on. -/
structure GSt (z b : Nat) (s : ByteArray) (F : List Seen) (A3 A4 : Option Addr) (c3 c4 : Nat) (stop : Int) (l : List Seen) (w : World) : Prop where
  w_ : w.heap[z]? = some (.cells #[.slice A3 F.length c3] 43 (0, 0))
  p : w.heap[z + 1]? = some (.cells #[.slice A4 F.length c4] 44 (0, 0))
  t : w.heap[z + 2]? = some (.cells #[.int .i64 stop] 3 (0, 0))
  n : w.heap[z + 3]? = some (.cells #[.int .i64 (l.length : Nat)] 3 (0, 0))
  o : w.heap[z + 4]? = some (.cells #[.bool (overB stop l)] 4 (0, 0))
  r : w.heap[z + 5]? = some (.cells #[.bool true] 4 (0, 0))
  text : w.heap[b]? = some (.cells #[.string s] 9 (0, 0))
  rows : ∀ k x, F[k]? = some x → At A3 A4 z k x w
theorem goes_tel (w0 : World) (z b : Nat) (s : ByteArray) (F : List Seen) (A3 A4 : Option Addr) (c3 c4 : Nat) (stop : Int) (hb : b < z) (hF : F.length ≤ 1099511627776) :
    Tel w0 (z + 6) z b s F 38 #[.pointer (some ⟨z + 5, 0, none⟩), .pointer (some ⟨z + 4, 0, none⟩), .pointer (some ⟨z + 3, 0, none⟩), .pointer (some ⟨z, 0, none⟩), .pointer (some ⟨z + 1, 0, none⟩), .pointer (some ⟨z + 2, 0, none⟩)] (GSt z b s F A3 A4 c3 c4 stop) (goesB stop) where
  move := by
    intro l w w' hm h
    exact ⟨(hm _ (by omega)).trans h.w_, (hm _ (by omega)).trans h.p, (hm _ (by omega)).trans h.t, (hm _ (by omega)).trans h.n, (hm _ (by omega)).trans h.o, (hm _ (by omega)).trans h.r, (hm _ (by omega)).trans h.text, fun k x hk => (h.rows k x hk).move fun j hj => hm j (by omega)⟩
  entry := fun args w => by kernel_rfl
  text := fun h => h.text
  step := by
    intro l x r w htot htru hlim _ h
    have hlen : l.length < F.length := by rw [← htot, List.length_append, List.length_cons]; omega
    have hx : F[l.length]? = some x := by rw [← htot, List.getElem?_append_right (Nat.le_refl _), Nat.sub_self]; rfl
    have ho : overB stop l = false := by
      unfold overB
      by_cases h0 : 0 < l.length
      · have := htru l.length h0 (Nat.le_refl _)
        rw [List.take_length] at this
        unfold goesB at this
        simp only [Bool.not_eq_true'] at this
        rw [this, Bool.and_false]
      · rw [decide_eq_false h0, Bool.false_and]
    have ho2 := h.o
    rw [ho] at ho2
    refine (goes1_calls z (z + 5) (z + 4) (z + 3) z (z + 1) (z + 2) z A3 A4 F.length c3 c4 l.length x stop w (by omega) (by omega) (by omega) (by omega) (by omega) h.r ho2 h.n h.w_ h.p h.t (by omega) (by omega) hlen hF (h.rows _ _ hx)).mono ?_
    rintro e w' ⟨rfl, g1, g2, g3, g4, g5⟩
    have hz := g5.size
    have e1 : (((l ++ [x]).length : Nat) : Int) = (l.length : Int) + 1 := by rw [List.length_append, List.length_singleton]; omega
    have old : ∀ j, j < z + 3 → w'.heap[j]? = w.heap[j]? := fun j hj => g4 j (by omega) (by omega) (by omega) (by omega)
    refine ⟨by unfold goesB; rw [e1], ⟨(old _ (by omega)).trans h.w_, (old _ (by omega)).trans h.p, (old _ (by omega)).trans h.t, ?_, ?_, g1, (old _ (by omega)).trans h.text, fun k y hk => (h.rows k y hk).move fun j hj => old j (by omega)⟩, g5, fun k h1 h2 => g4 k h2 (by omega) (by omega) (by omega)⟩
    · rw [g3, List.length_append, List.length_singleton]
    · rw [g2]
      unfold overB
      rw [e1, decide_eq_true (by rw [List.length_append, List.length_singleton]; omega), Bool.true_and]
theorem told_end (g : List Seen → Bool) : ∀ (rest done : List Seen), told g done rest = done ++ rest ∨ (g (told g done rest) = false ∧ 0 < (told g done rest).length)
  | [], done => .inl (by simp [told])
  | x :: r, done => by
    unfold told
    cases hg : g (done ++ [x]) with
    | true =>
      rw [if_pos rfl]
      rcases told_end g r (done ++ [x]) with h | h
      · exact .inl (by rw [h]; simp)
      · exact .inr h
    | false =>
      rw [if_neg (by decide)]
      exact .inr ⟨hg, by simp⟩
theorem goes_right (stop : Int) (F : List Seen) : (overB stop (told (goesB stop) [] F) || ((told (goesB stop) [] F).length : Int) == (F.length : Int)) = true := by
  rcases told_end (goesB stop) F [] with h | ⟨h, h2⟩
  · rw [h]; simp
  · generalize told (goesB stop) [] F = T at *
    unfold goesB at h
    unfold overB
    rw [decide_eq_true h2]
    simp only [Bool.not_eq_false'] at h
    rw [h]
    rfl
theorem at_rows {A3 A4 : Option Addr} {w : World} {F : List Seen} (h3 : Kd.C k49 w A3 F.length (F.map s49)) (h4 : Kd.C (Kd.int .i64) w A4 F.length (F.map nx)) : ∀ k x, F[k]? = some x → At A3 A4 w.heap.size k x w := by
  intro k x hx
  have hk : k < F.length := (List.getElem?_eq_some_iff.1 hx).1
  have hrd : rd_T49 (F.map s49) ((k : Nat) : Int) = s49 x := by
    unfold rd_T49
    rw [Int.toNat_natCast, List.getD_eq_getElem?_getD, List.getElem?_map, hx]
    rfl
  have hrd2 : rd (F.map nx) ((k : Nat) : Int) = (x.next : Int) := by
    unfold rd
    rw [Int.toNat_natCast, List.getD_eq_getElem?_getD, List.getElem?_map, hx]
    rfl
  obtain ⟨ad, hA3, g0, g1, g2, g3⟩ := at_T49 h3 (k : Int) (by omega) (by omega)
  obtain ⟨ad4, hA4, g4⟩ := Kd.at_int h4 (k : Int) (by omega) (by omega)
  rw [hrd, Int.toNat_natCast] at g0 g1 g2 g3
  rw [hrd2, Int.toNat_natCast] at g4
  have lt : ∀ {p : Addr} {v : Value}, w.cell? p = some v → p.block < w.heap.size := by
    intro p v h
    unfold World.cell? at h
    split at h
    · rename_i hb; exact (Array.getElem?_eq_some_iff.1 hb).1
    · exact absurd h (by simp)
  exact ⟨ad, ad4, hA3, hA4, lt g0, lt g4, g0, g1, g2, g3, g4⟩
theorem heap_six (w : World) (a b c d e f : Obj) : ((((((w.alloc a).alloc b).alloc c).alloc d).alloc e).alloc f).heap[w.heap.size]? = some a ∧ ((((((w.alloc a).alloc b).alloc c).alloc d).alloc e).alloc f).heap[w.heap.size + 1]? = some b ∧
    ((((((w.alloc a).alloc b).alloc c).alloc d).alloc e).alloc f).heap[w.heap.size + 2]? = some c ∧ ((((((w.alloc a).alloc b).alloc c).alloc d).alloc e).alloc f).heap[w.heap.size + 3]? = some d ∧
    ((((((w.alloc a).alloc b).alloc c).alloc d).alloc e).alloc f).heap[w.heap.size + 4]? = some e ∧ ((((((w.alloc a).alloc b).alloc c).alloc d).alloc e).alloc f).heap[w.heap.size + 5]? = some f ∧
    ((((((w.alloc a).alloc b).alloc c).alloc d).alloc e).alloc f).heap.size = w.heap.size + 6 ∧ ∀ j, j < w.heap.size → ((((((w.alloc a).alloc b).alloc c).alloc d).alloc e).alloc f).heap[j]? = w.heap[j]? := by
  obtain ⟨h1, h2, h3, h4, h5⟩ := heap_four w a b c d
  have z5 : (((((w.alloc a).alloc b).alloc c).alloc d).alloc e).heap.size = w.heap.size + 5 := by simp
  have old : ∀ j, j < w.heap.size + 4 → ((((((w.alloc a).alloc b).alloc c).alloc d).alloc e).alloc f).heap[j]? = ((((w.alloc a).alloc b).alloc c).alloc d).heap[j]? := fun j hj => by
    rw [Below.heap_alloc _ _ _ (by omega), Below.heap_alloc _ _ _ (by omega)]
  refine ⟨(old _ (by omega)).trans h1, (old _ (by omega)).trans h2, (old _ (by omega)).trans h3, (old _ (by omega)).trans h4, ?_, ?_, by simp, fun j hj => ?_⟩
  · rw [Below.heap_alloc _ _ _ (by omega), ← h5]; exact heap_alloc_new _ _
  · rw [← z5]; exact heap_alloc_new _ _
  · rw [old j (by omega), Below.heap_alloc _ _ _ (by simp; omega), Below.heap_alloc _ _ _ (by simp; omega), Below.heap_alloc _ _ _ (by simp; omega), Below.heap_alloc _ _ _ hj]
set_option maxHeartbeats 2000000 in
set_option maxRecDepth 100000 in
theorem goes_calls (s : ByteArray) (b : Nat) (A3 A4 : Option Addr) (c3 c4 : Nat) (stop : Int) (w : World) (hs : s.size ≤ 1099511627776) (hb : w.heap[b]? = some (.cells #[.string s] 9 (0, 0)))
    (h3 : Kd.C k49 w A3 (scanT s.data.toList 0 none).length ((scanT s.data.toList 0 none).map s49)) (h4 : Kd.C (Kd.int .i64) w A4 (scanT s.data.toList 0 none).length ((scanT s.data.toList 0 none).map nx)) :
    Calls Try.prog 23 #[.func (.func 35) #[] #[.pointer (some ⟨b, 0, none⟩)], .slice A3 (scanT s.data.toList 0 none).length c3, .slice A4 (scanT s.data.toList 0 none).length c4, .int .i64 stop] w fun e w' => e = .returned (.bool true) ∧ Below w.heap.size w w' := by
  have hsc := scanT_length s.data.toList 0 none
  rw [toList_length] at hsc
  have hrows := at_rows h3 h4
  have hlt : b < w.heap.size := (Array.getElem?_eq_some_iff.1 hb).1
  obtain ⟨F, hF⟩ : ∃ F, scanT s.data.toList 0 none = F := ⟨_, rfl⟩
  rw [hF] at hrows hsc ⊢
  have T := fun w0 => goes_tel w0 w.heap.size b s F A3 A4 c3 c4 stop hlt (by omega)
  obtain ⟨g1, g2, g3, g4, g5, g6, g7, g8⟩ := heap_six w (.cells #[.slice A3 F.length c3] 43) (.cells #[.slice A4 F.length c4] 44) (.cells #[.int .i64 stop] 3) (.cells #[.int .i64 0] 3) (.cells #[.bool false] 4) (.cells #[.bool true] 4)
  have hst : GSt w.heap.size b s F A3 A4 c3 c4 stop [] ((((((w.alloc (.cells #[.slice A3 F.length c3] 43)).alloc (.cells #[.slice A4 F.length c4] 44)).alloc (.cells #[.int .i64 stop] 3)).alloc (.cells #[.int .i64 0] 3)).alloc (.cells #[.bool false] 4)).alloc (.cells #[.bool true] 4)) :=
    ⟨g1, g2, g3, g4, g5, g6, (g8 _ hlt).trans hb, fun k x hk => (hrows k x hk).move g8⟩
  have hbel : Below w.heap.size w ((((((w.alloc (.cells #[.slice A3 F.length c3] 43)).alloc (.cells #[.slice A4 F.length c4] 44)).alloc (.cells #[.int .i64 stop] 3)).alloc (.cells #[.int .i64 0] 3)).alloc (.cells #[.bool false] 4)).alloc (.cells #[.bool true] 4)) :=
    ((((((Below.refl w.heap.size w).alloc (Nat.le_refl _) _).alloc (by simp) _).alloc (by simp; omega) _).alloc (by simp; omega) _).alloc (by simp; omega) _).alloc (by simp; omega) _
  have HST := Lib.hid hst
  have HBEL := Lib.hid hbel
  have HT := Lib.hid T
  have HG7 := Lib.hid g7
  have HF := Lib.hid hF
  clear hst hbel T g1 g2 g3 g4 g5 g6 g7 g8 h3 h4 hrows hb hF
  go_enter Try.func23, Try.ntmps23
  go_wp2_with fail
  generalize ((((((w.alloc (.cells #[.slice A3 F.length c3] 43)).alloc (.cells #[.slice A4 F.length c4] 44)).alloc (.cells #[.int .i64 stop] 3)).alloc (.cells #[.int .i64 0] 3)).alloc (.cells #[.bool false] 4)).alloc (.cells #[.bool true] 4)) = w6 at *
  refine (scanq_calls s b 38 w.heap.size _ (GSt w.heap.size b s F A3 A4 c3 c4 stop) (goesB stop) w6 (by rw [HG7.out, HF.out]; exact HT.out _) (by omega) (by have := HG7.out; omega) HST.out).mono ?_
  rintro e w7 ⟨rfl, hst, hb7⟩
  rw [HF.out] at hst
  have hright := goes_right stop F
  have HB7 := Lib.hid (HBEL.out.trans hb7)
  have hr : w7.heap[w.heap.size + 1 + 1 + 1 + 1 + 1]? = some (.cells #[.bool true] 4 (0, 0)) := hst.r
  have ho : w7.heap[w.heap.size + 1 + 1 + 1 + 1]? = some (.cells #[.bool (overB stop (told (goesB stop) [] F))] 4 (0, 0)) := hst.o
  have hn : w7.heap[w.heap.size + 1 + 1 + 1]? = some (.cells #[.int .i64 ((told (goesB stop) [] F).length : Nat)] 3 (0, 0)) := hst.n
  have hw : w7.heap[w.heap.size]? = some (.cells #[.slice A3 F.length c3] 43 (0, 0)) := hst.w_
  generalize overB stop (told (goesB stop) [] F) = ob at *
  generalize (told (goesB stop) [] F).length = m at *
  have k0 := cell_of_row _ _ 0 _ _ _ hr
  have k1 := cell_of_row _ _ 0 _ _ _ ho
  have k2 := cell_of_row _ _ 0 _ _ _ hn
  have k3 := cell_of_row _ _ 0 _ _ _ hw
  clear hst hb7 hr ho hn hw HST HBEL HT HG7 HF
  cases ob with
  | true =>
    clear hright
    go_wp2
    go_ret
    exact ⟨rfl, HB7.out⟩
  | false =>
    have hm : (m : Int) = (F.length : Int) := by simpa using hright
    clear hright
    obtain rfl : m = F.length := by omega
    clear hm
    go_wp2
    go_ret
    exact ⟨rfl, HB7.out⟩
end Go.Proofs.Ytcndhgpaoihblaa.Fr
