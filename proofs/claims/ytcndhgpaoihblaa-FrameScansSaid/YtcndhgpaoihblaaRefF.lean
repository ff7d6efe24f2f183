/- What the printed function of the document's own Encode comes to: the same plain answer. -/
import Derived.Test.YtcndhgpaoihblaaEncF
import Derived.Test.YtcndhgpaoihblaaSumF
import Derived.Test.YtcndhgpaoihblaaFr5
import Derived.Test.YtcndhgpaoihblaaStr
namespace Go.Proofs.Ytcndhgpaoihblaa.Fr
open Go.RowKit Go.Proofs.YtcndhgpaoihblaaW.PrintWords
open Plain Crc

theorem ref_four (n : Nat) (h : n < 4294967296) : postbagref10_four.f (n : Int) = some ⟨(be4 n).toArray⟩ := by
  have d : ∀ q : Nat, 0 < q → Int.tdiv (n : Int) q = ((n / q : Nat) : Int) := fun q _ => by
    rw [Int.tdiv_eq_ediv_of_nonneg (by omega)]; rfl
  have m : ∀ q : Nat, Int.tmod (q : Int) 256 = ((q % 256 : Nat) : Int) := fun q => by rw [Int.tmod_eq_emod_of_nonneg (by omega)]; rfl
  have d1 := d 16777216 (by decide)
  have d2 := d 65536 (by decide)
  have d3 := d 256 (by decide)
  simp only [Int.cast_ofNat_Int] at d1 d2 d3
  unfold postbagref10_four.f
  rw [d1, d2, d3, w64 (x := ((n / 16777216 : Nat) : Int)) (by omega) (by omega), w64 (x := ((n / 65536 : Nat) : Int)) (by omega) (by omega), w64 (x := ((n / 256 : Nat) : Int)) (by omega) (by omega), m, m, m, m]
  have e : ([((n / 16777216 % 256 : Nat) : Int) % 256, ((n / 65536 % 256 : Nat) : Int) % 256, ((n / 256 % 256 : Nat) : Int) % 256, ((n % 256 : Nat) : Int) % 256] : List Int) = ints (be4 n) := by
    simp only [ints, be4, List.map_cons, List.map_nil, UInt8.toNat_ofNat']
    congr 1
    · omega
    · congr 1
      · omega
      · congr 1
        · omega
        · congr 1
          omega
  rw [e, str_ints]
theorem encL_def (k n : Nat) (b : List UInt8) : encL k n b = fullL k n b ++ be4 (sumL (fullL k n b)) := by rw [encL]
theorem fullL_def (k n : Nat) (b : List UInt8) : fullL k n b = headL k n b.length ++ be4 (sumL (headL k n b.length)) ++ b := by rw [fullL]
theorem headL_def (k n m : Nat) : headL k n m = [0xB7, UInt8.ofNat k] ++ be4 n ++ be4 m := by rw [headL]
theorem ref_laid (k n : Nat) (s : ByteArray) (hn : n < 4294967296) (hs : s.size ≤ 2097152) :
    Ev (fun r => postbagref10_Laid.f r 183 (k : Int) (n : Int) (s.size : Int) s) ⟨(encL k n s.data.toList).toArray⟩ := by
  have hl : s.data.toList.length = s.size := toList_length s
  have e0 : ([(183 : Int) % 256, ((k : Nat) : Int) % 256] : List Int) = ints [0xB7, UInt8.ofNat k] := by
    simp only [ints, List.map_cons, List.map_nil, UInt8.toNat_ofNat']
    rfl
  have eh : [0xB7, UInt8.ofNat k] ++ be4 n ++ be4 s.size = headL k n s.data.toList.length := by rw [hl, headL_def]
  have h1 := refsum_f ⟨(headL k n s.data.toList.length).toArray⟩ (by rw [size_str, headL_length]; omega)
  have h2 := refsum_f ⟨(fullL k n s.data.toList).toArray⟩ (by rw [size_str, fullL_length, hl]; omega)
  have f1 := ref_four _ (sumL_lt (headL k n s.data.toList.length))
  have f2 := ref_four _ (sumL_lt (fullL k n s.data.toList))
  have ef : headL k n s.data.toList.length ++ be4 (sumL (headL k n s.data.toList.length)) ++ s.data.toList = fullL k n s.data.toList := (fullL_def _ _ _).symm
  have h4 : ∀ m, (⟨(be4 m).toArray⟩ : ByteArray).size = 4 := fun m => by rw [size_str, be4_length]
  have hh : (⟨(headL k n s.data.toList.length).toArray⟩ : ByteArray).size = 10 := by rw [size_str, headL_length]
  have c1 : (⟨[0xB7, UInt8.ofNat k].toArray⟩ : ByteArray).size + (⟨(be4 n).toArray⟩ : ByteArray).size ≤ 9223372036854775807 := by rw [h4, size_str]; simp only [List.length_cons, List.length_nil]; omega
  have c2 : (⟨([0xB7, UInt8.ofNat k] ++ be4 n).toArray⟩ : ByteArray).size + (⟨(be4 s.size).toArray⟩ : ByteArray).size ≤ 9223372036854775807 := by rw [h4, size_str, List.length_append, be4_length]; simp only [List.length_cons, List.length_nil]; omega
  have c3 : (⟨(headL k n s.data.toList.length).toArray⟩ : ByteArray).size + (⟨(be4 (sumL (headL k n s.data.toList.length))).toArray⟩ : ByteArray).size ≤ 9223372036854775807 := by rw [h4, hh]; omega
  have c4 : (⟨(headL k n s.data.toList.length ++ be4 (sumL (headL k n s.data.toList.length))).toArray⟩ : ByteArray).size + s.size ≤ 9223372036854775807 := by rw [size_str, List.length_append, headL_length, be4_length]; omega
  have c5 : (⟨(fullL k n s.data.toList).toArray⟩ : ByteArray).size + (⟨(be4 (sumL (fullL k n s.data.toList))).toArray⟩ : ByteArray).size ≤ 9223372036854775807 := by rw [h4, size_str, fullL_length, hl]; omega
  have es : (⟨(headL k n s.data.toList.length ++ be4 (sumL (headL k n s.data.toList.length))).toArray⟩ : ByteArray) ++ s = ⟨(fullL k n s.data.toList).toArray⟩ := by
    conv => lhs; rhs; rw [← str_self s]
    rw [app_str, ef]
  unfold postbagref10_Laid.f
  simp only [e0, Option.bind_some, str_ints, ref_four n hn, if_pos c1, ref_four s.size (by omega), app_str, if_pos c2, eh]
  refine Ev.bind h1 ?_
  simp only [f1, Option.bind_some, if_pos c3, app_str, if_pos c4, es]
  refine Ev.bind h2 ?_
  simp only [f2, Option.bind_some, if_pos c5, app_str, ← encL_def]
  exact Ev.now _
theorem ref_encode (k n : Int) (s : ByteArray) : Ev (fun r => postbagref10_Encode.f r k n s) (encAns k n s) := by
  unfold encAns
  by_cases c1 : (s.size : Int) > 2097152
  · rw [if_pos c1]
    exact Ev.congr (fun r => by unfold postbagref10_Encode.f; rw [if_pos c1]) (Ev.now _)
  · rw [if_neg c1]
    have hj : ∀ r, postbagref10_Encode.f r k n s = postbagref10_Encode.j0 r k n s (! decide (k = 1 ∨ k = 2)) := fun r => by
      unfold postbagref10_Encode.f
      rw [if_neg c1]
      by_cases h : k = 1
      · rw [if_pos h]; simp [h]
      · rw [if_neg h]
        have : (k != 2) = (! decide (k = 1 ∨ k = 2)) := by rw [Bool.eq_iff_iff]; simp [h]
        rw [this]
    refine Ev.congr hj ?_
    by_cases c2 : k = 1 ∨ k = 2
    · rw [if_neg (not_not_intro c2)]
      have hb : (! decide (k = 1 ∨ k = 2)) = false := by simp [c2]
      rw [hb]
      by_cases c3 : 1 ≤ n ∧ n < 4294967295
      · rw [if_neg (not_not_intro c3)]
        obtain ⟨n, rfl⟩ := Int.eq_ofNat_of_zero_le (show 0 ≤ n by omega)
        obtain ⟨k, rfl⟩ := Int.eq_ofNat_of_zero_le (show 0 ≤ k by omega)
        rw [Int.toNat_natCast, Int.toNat_natCast]
        refine Ev.step (f := fun r => (postbagref10_Laid.f r 183 (k : Int) (n : Int) (s.size : Int) s).bind fun t159 => (some (t159, 0))) (fun r => ?_) (Ev.bind (ref_laid k n s (by omega) (by omega)) (Ev.now _))
        simp only [postbagref10_Encode.j0, Bool.false_eq_true, if_false]
        rw [if_neg (by omega), if_neg (by omega)]
      · rw [if_pos c3]
        refine Ev.step (f := fun _ => some _) (fun r => ?_) (Ev.now _)
        simp only [postbagref10_Encode.j0, Bool.false_eq_true, if_false]
        by_cases h : n < 1
        · rw [if_pos h]
        · rw [if_neg h, if_pos (by omega)]
    · rw [if_pos c2]
      have hb : (! decide (k = 1 ∨ k = 2)) = true := by simp [c2]
      rw [hb]
      refine Ev.step (f := fun _ => some _) (fun r => ?_) (Ev.now _)
      simp only [postbagref10_Encode.j0, if_true]
end Go.Proofs.Ytcndhgpaoihblaa.Fr
