/- What the printed function of the document's own Sum comes to: the plain sum. -/
import Derived.Test.YtcndhgpaoihblaaReadF
import Derived.Test.YtcndhgpaoihblaaFr3
namespace Go.Proofs.Ytcndhgpaoihblaa.Fr
open Go.RowKit Go.Proofs.YtcndhgpaoihblaaW.PrintWords
open Plain Crc

theorem xor_i64 (a b : Nat) (ha : a < 4294967296) (hb : b < 4294967296) : Go.bits .xor .i64 (a : Int) (b : Int) = ((a ^^^ b : Nat) : Int) :=
  bits_xor_nat .i64 63 (by decide) wraps_i64 a b (by omega) (by omega)
theorem ref_turned (v : Nat) (h : v < 4294967296) : postbagref10_turned.f (v : Int) = some ((turn1 v : Nat) : Int) := by
  unfold postbagref10_turned.f turn1
  have e1 : Int.tmod (v : Int) 2 = ((v % 2 : Nat) : Int) := by rw [Int.tmod_eq_emod_of_nonneg (by omega)]; omega
  have e2 : Int.tdiv (v : Int) 2 = ((v / 2 : Nat) : Int) := by rw [Int.tdiv_eq_ediv_of_nonneg (by omega)]; omega
  rw [e1, e2, w64 (by omega) (by omega)]
  by_cases c : v % 2 = 1
  · rw [if_pos (by omega), if_pos c]
    have := xor_i64 (v / 2) 3988292384 (by omega) (by decide)
    rw [← this]
    rfl
  · rw [if_neg (by omega), if_neg c]
theorem ref_l1 (s : ByteArray) (i : Int) (r : Int) (d : Nat) : ∀ (v j : Nat), v < 4294967296 → j + d = 8 → Ev (fun k => postbagref10_Sum.l0 k s ((turns d v : Nat) : Int) (wrap64 (i + 1))) r →
    Ev (fun k => postbagref10_Sum.l1 k s (v : Int) i (j : Int)) r := by
  induction d with
  | zero =>
    intro v j hv hj he
    refine Ev.step (fun k => ?_) he
    simp only [postbagref10_Sum.l1]
    rw [if_neg (by omega)]
    rfl
  | succ d ih =>
    intro v j hv hj he
    refine Ev.step (f := fun k => postbagref10_Sum.l1 k s ((turn1 v : Nat) : Int) i ((j + 1 : Nat) : Int)) (fun k => ?_) (ih (turn1 v) (j + 1) (turn1_lt hv) (by omega) he)
    simp only [postbagref10_Sum.l1]
    rw [if_pos (by omega), ref_turned v hv, Option.bind_some, w64 (by omega) (by omega)]
    rfl
theorem ref_l0 (s : ByteArray) (hs : s.size ≤ 4611686018427387904) (d : Nat) : ∀ (v i : Nat), v < 4294967296 → i + d = s.size → Ev (fun k => postbagref10_Sum.l0 k s (v : Int) (i : Int)) ((reg v (s.data.toList.drop i) ^^^ 4294967295 : Nat) : Int) := by
  induction d with
  | zero =>
    intro v i hv hi
    refine Ev.step (f := fun _ => some _) (fun k => ?_) (Ev.now _)
    simp only [postbagref10_Sum.l0]
    rw [if_neg (by omega)]
    have h := xor_i64 v 4294967295 hv (by decide)
    rw [show s.data.toList.drop i = [] from List.drop_of_length_le (by rw [toList_length]; omega)]
    exact congrArg some h
  | succ d ih =>
    intro v i hv hi
    have hlt : i < s.size := by omega
    have hx := xor_i64 v s[i].toNat hv (Nat.lt_trans s[i].toNat_lt (by decide))
    have hd : s.data.toList.drop i = s[i] :: s.data.toList.drop (i + 1) := by
      rw [List.drop_eq_getElem_cons (by rw [toList_length]; exact hlt)]
      congr 1
    have hxl : v ^^^ s[i].toNat < 4294967296 := Nat.xor_lt_two_pow (n := 32) hv (Nat.lt_trans s[i].toNat_lt (by decide))
    refine Ev.step (f := fun k => postbagref10_Sum.l1 k s ((v ^^^ s[i].toNat : Nat) : Int) (i : Int) ((0 : Nat) : Int)) (fun k => ?_) ?_
    · simp only [postbagref10_Sum.l0]
      rw [if_pos (by omega), if_pos (by omega), bt_eq s i hlt, w64 (by omega) (by have := s[i].toNat_lt; omega), hx]
      rfl
    · refine ref_l1 s i _ 8 (v ^^^ s[i].toNat) 0 hxl rfl ?_
      have := ih (turns 8 (v ^^^ s[i].toNat)) (i + 1) (turns_lt 8 hxl) (by omega)
      rw [hd, w64 (by omega) (by omega)]
      exact this
theorem refsum_f (s : ByteArray) (hs : s.size ≤ 4611686018427387904) : Ev (fun k => postbagref10_Sum.f k s) ((sumL s.data.toList : Nat) : Int) := by
  have := ref_l0 s hs s.size 4294967295 0 (by decide) (by omega)
  rw [List.drop_zero] at this
  exact this
end Go.Proofs.Ytcndhgpaoihblaa.Fr
