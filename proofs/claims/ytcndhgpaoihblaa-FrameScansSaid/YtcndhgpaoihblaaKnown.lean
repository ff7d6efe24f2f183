/- postbaglaw10.known: it answers true. -/
import Derived.Test.YtcndhgpaoihblaaScan
import Derived.Test.YtcndhgpaoihblaaEncF
namespace Go.Proofs.Ytcndhgpaoihblaa.Fr
open Go.RowKit Go.Proofs.YtcndhgpaoihblaaW.PrintWords
open Plain Crc

def knownB (x : Seen) : Bool := (x.next : Int) == 20 && ((x.number : Int) == 5 && x.body == [97, 98])
set_option maxHeartbeats 1000000 in
theorem known1_calls (nb : Nat) (n : Int) (x : Seen) (w : World) (hb : w.heap[nb]? = some (.cells #[.int .i64 n] 3 (0, 0))) (h0 : 0 ≤ n) (h1 : n < 4611686018427387904) :
    Calls Try.prog 30 #[.int .i64 x.next, .agg #[.int .i64 x.kind, .int .i64 x.number, .int .i64 x.at_, .string ⟨x.body.toArray⟩], .pointer (some ⟨nb, 0, none⟩)] w fun e w' =>
      e = .returned (.bool (knownB x)) ∧ w'.heap[nb]? = some (.cells #[.int .i64 (n + 1)] 3 (0, 0)) ∧ Kept w w' (fun k => k = nb) ∧ Below nb w w' := by
  have hc : w.cell? ⟨nb, 0, none⟩ = some (.int .i64 n) := cell_of_row w _ 0 _ _ _ hb
  have hf : w.frozen? ⟨nb, 0, none⟩ = false := frozen_of_row w _ 0 _ _ hb
  have hlt : nb < w.heap.size := (Array.getElem?_eq_some_iff.1 hb).1
  have HB := Lib.hid hb
  clear hb
  have fin : ∀ v, Kept w ((w.setCell ⟨nb, 0, none⟩ v).alloc (.cells #[.int .i64 x.kind, .int .i64 x.number, .int .i64 x.at_, .string ⟨x.body.toArray⟩] 49)) (fun k => k = nb) :=
    fun v => ⟨by simp, fun i hi hn => by rw [Below.heap_alloc _ _ _ (by simpa [World.setCell] using hi), heap_setCell_other _ _ _ _ hn]⟩
  have fin3 : ∀ v, Below nb w ((w.setCell ⟨nb, 0, none⟩ v).alloc (.cells #[.int .i64 x.kind, .int .i64 x.number, .int .i64 x.at_, .string ⟨x.body.toArray⟩] 49)) :=
    fun v => ((Below.refl nb w).setCell (p := ⟨nb, 0, none⟩) (Nat.le_refl _) v).alloc (by simp [World.setCell]; omega) _
  have fin2 : ∀ v, ((w.setCell ⟨nb, 0, none⟩ v).alloc (.cells #[.int .i64 x.kind, .int .i64 x.number, .int .i64 x.at_, .string ⟨x.body.toArray⟩] 49)).heap[nb]? = some (.cells #[v] 3 (0, 0)) :=
    fun v => by rw [Below.heap_alloc _ _ _ (by simp [World.setCell]; omega), heap_setCell_same w _ _ _ _ _ HB.out]; rfl
  have FIN := Lib.hid fin
  have FIN2 := Lib.hid fin2
  have FIN3 := Lib.hid fin3
  clear fin fin2 fin3
  cases e1 : ((x.next : Int) == 20) with
  | false =>
    have e : Hid (knownB x = false) := by show knownB x = false; simp only [knownB, e1, Bool.false_and]
    go_enter Try.func30, Try.ntmps30
    go_wp2
    go_ret
    exact ⟨by rw [e.out]; rfl, FIN2.out _, FIN.out _, FIN3.out _⟩
  | true =>
    cases e2 : ((x.number : Int) == 5) with
    | false =>
      have e : Hid (knownB x = false) := by show knownB x = false; simp only [knownB, e2, Bool.false_and, Bool.and_false]
      go_enter Try.func30, Try.ntmps30
      go_wp2
      go_ret
      exact ⟨by rw [e.out]; rfl, FIN2.out _, FIN.out _, FIN3.out _⟩
    | true =>
      have e : Hid (knownB x = (x.body == [97, 98])) := by show knownB x = _; simp only [knownB, e1, e2, Bool.true_and]
      go_enter Try.func30, Try.ntmps30
      go_wp2
      go_ret
      exact ⟨by rw [e.out]; rfl, FIN2.out _, FIN.out _, FIN3.out _⟩
/-- The counter's block. -/
def KnownSt (nb : Nat) (l : List Seen) (ok : Nat → Prop) (w : World) : Prop := ok nb ∧ w.heap[nb]? = some (.cells #[.int .i64 (l.length : Nat)] 3 (0, 0))
theorem known_teller (nb base : Nat) (hb : base ≤ nb) : Teller 30 #[.pointer (some ⟨nb, 0, none⟩)] base (KnownSt nb) (fun _ x => knownB x) where
  move := fun hm _ h => ⟨h.1, (hm nb h.1 (Array.getElem?_eq_some_iff.1 h.2).1).trans h.2⟩
  mono := fun hm h => ⟨hm nb h.1, h.2⟩
  entry := fun args w => by kernel_rfl
  step := fun l x ok w hl hbw h => by
    refine (known1_calls nb (l.length : Nat) x w h.2 (by omega) (by omega)).mono ?_
    rintro e w' ⟨rfl, h1, h2, h3⟩
    refine ⟨rfl, ⟨.inl h.1, ?_⟩, h3.mono hb, ⟨h2.1, fun i hi hn => h2.2 i hi (fun e => hn (by rw [e]; exact h.1))⟩⟩
    rw [h1]
    simp
def ab : List UInt8 := [97, 98]
def ab1 : ByteArray := ⟨(encL 1 5 ab).toArray⟩
theorem enc_ab : frame_Encode.f 1 5 ⟨#[97, 98]⟩ = some (ab1, 0) := by
  rw [encode_f]
  rfl
theorem scan_ab : scanT (ab1 ++ (⟨#[120]⟩ : ByteArray)).data.toList 0 none = [⟨1, 5, 0, ab, 20⟩] := by
  have e : (ab1 ++ (⟨#[120]⟩ : ByteArray)).data.toList = encL 1 5 ab ++ [120] := by
    rw [ByteArray.data_append, Array.toList_append]; rfl
  have h := frameL_enc 1 5 ab [120] (by decide)
  have hl : (encL 1 5 ab).length = 20 := rfl
  rw [e, scanT_some h, if_pos (.inl rfl)]
  have h2 : (encL 1 5 ab ++ [120]).drop (18 + ab.length) = [120] := by
    show (encL 1 5 ab ++ [120]).drop 20 = _
    rw [← hl, List.drop_left]
  rw [h2, scanT_none (by rfl)]
  rfl
theorem sum9 : frame_Sum.f ⟨#[49, 50, 51, 52, 53, 54, 55, 56, 57]⟩ = some 3421780262 := by kernel_rfl
set_option maxHeartbeats 1000000 in
theorem known_calls (w : World) : Calls Try.prog 14 #[] w fun e w' => e = .returned (.bool true) ∧ Below w.heap.size w w' := by
  go_enter Try.func14, Try.ntmps14
  go_wp2_with fail
  refine (frame_Encode.calls 1 5 ⟨#[97, 98]⟩ ab1 0 _ enc_ab).mono ?_
  rintro e w1 ⟨rfl, hb1⟩
  have z : ab1.size = 20 := rfl
  have i0 : (ab1[0]'(by rw [z]; omega)) = 183 := rfl
  have i5 : (ab1[5]'(by rw [z]; omega)) = 5 := rfl
  have ex : ab1.extract 14 16 = ⟨#[97, 98]⟩ := rfl
  go_wp2_with fail
  refine (postbaglaw10_num.calls 0 0 _ rfl).mono ?_
  rintro e wa ⟨rfl, hda⟩
  have hba := hda.below
  clear hda
  go_wp2_with fail
  refine (frame_Sum.calls ⟨#[49, 50, 51, 52, 53, 54, 55, 56, 57]⟩ 3421780262 _ sum9).mono ?_
  rintro e w2 ⟨rfl, hb2⟩
  go_wp2_with fail
  refine (frame_Size.calls 20 38 _ (by kernel_rfl)).mono ?_
  rintro e w3 ⟨rfl, hdb⟩
  have hb3 := hdb.below
  clear hdb
  have hneq : ∀ (w : World) (f : Fn) (a b : Array Value), (binOp .eql 41 (.func f a b) .nilFunc).run Try.prog w = .ok (.bool false) w := fun w f a b => by kernel_rfl
  go_wp2_with fail
  refine (scan_calls _ _).mono ?_
  rintro e w4 ⟨rfl, rfl⟩
  go_wp2_with fail
  clear hneq
  have hbelow : Below w.heap.size w w3 := ((hb1.trans (hba.mono hb1.size)).trans (hb2.mono (Nat.le_trans hb1.size hba.size))).trans (hb3.mono (Nat.le_trans hb1.size (Nat.le_trans hba.size hb2.size)))
  have hn0 := heap_alloc2_old w3 (.cells #[.int .i64 0] 3) (.cells #[.string (ab1 ++ ⟨#[120]⟩)] 9)
  have hs1 := heap_alloc2_new w3 (.cells #[.int .i64 0] 3) (.cells #[.string (ab1 ++ ⟨#[120]⟩)] 9)
  have hbel2 : Below w.heap.size w ((w3.alloc (.cells #[.int .i64 0] 3)).alloc (.cells #[.string (ab1 ++ ⟨#[120]⟩)] 9)) :=
    (hbelow.alloc hbelow.size _).alloc (by simp; have := hbelow.size; omega) _
  have hszw : w.heap.size ≤ w3.heap.size := hbelow.size
  refine (scan1_calls (ab1 ++ ⟨#[120]⟩) (w3.heap.size + 1) 30 w.heap.size #[.pointer (some ⟨w3.heap.size, 0, none⟩)] (KnownSt w3.heap.size) (fun _ x => knownB x)
    (known_teller _ _ hszw) (by rw [ByteArray.size_append, z]; show 20 + 1 ≤ _; omega) (by rw [scan_ab]; decide) (fun k => k = w3.heap.size) _ hs1 (by omega) (fun k hk => by subst hk; simp; omega) (by simp; omega) ⟨rfl, hn0⟩).mono ?_
  rintro e w5 ⟨rfl, hst, hbl5, _⟩
  have hfin : taken (fun _ x => knownB x) [] (scanT (ab1 ++ (⟨#[120]⟩ : ByteArray)).data.toList 0 none) = [⟨1, 5, 0, ab, 20⟩] := by
    rw [scan_ab]
    rfl
  have hcell : w5.cell? ⟨w3.heap.size, 0, none⟩ = some (.int .i64 1) := by
    have := hst.2
    rw [hfin] at this
    exact cell_of_row w5 _ 0 _ _ _ this
  have HBL := Lib.hid (hbel2.trans hbl5)
  clear hst hbl5 hfin hn0 hs1 hbel2 hbelow hb1 hba hb2 hb3
  go_wp2
  go_ret
  exact ⟨rfl, HBL.out⟩
end Go.Proofs.Ytcndhgpaoihblaa.Fr
