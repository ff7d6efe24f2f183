/- What the printed functions of frame.Encode and of the document's own Encode come to: the plain frame. -/
import Derived.Test.YtcndhgpaoihblaaReadF
import Derived.Test.YtcndhgpaoihblaaFr3
import Derived.Test.YtcndhgpaoihblaaWMore
namespace Go.Proofs.Ytcndhgpaoihblaa.Fr
open Go.RowKit Go.Proofs.YtcndhgpaoihblaaW.PrintWords
open Plain Crc

def ints (b : List UInt8) : List Int := b.map fun x => (x.toNat : Int)
theorem ints_append (a b : List UInt8) : ints (a ++ b) = ints a ++ ints b := List.map_append
theorem ints_length (a : List UInt8) : (ints a).length = a.length := List.length_map _
theorem str_ints (b : List UInt8) : strOfNums (ints b) = ⟨b.toArray⟩ := by
  unfold strOfNums ints
  rw [List.map_map]
  congr 2
  rw [List.map_congr_left (g := id) (fun x _ => by simp), List.map_id]
theorem bytesOf_ints (s : ByteArray) : bytesOf s = ints s.data.toList := rfl
theorem four_f (l : List Int) (n : Nat) (hl : l.length < 140737488355324) : frame_four.f l (n : Int) = some (l ++ ints (be4 n)) := by
  have e : ([((n : Int) / 16777216) % 256, ((n : Int) / 65536) % 256, ((n : Int) / 256) % 256, ((n : Int)) % 256] : List Int) = ints (be4 n) := by
    simp only [ints, be4, List.map_cons, List.map_nil, UInt8.toNat_ofNat']
    congr 1
  unfold frame_four.f
  rw [e]
  simp only [Option.bind_some]
  rw [if_pos (by rw [ints_length, be4_length]; omega)]
/-- Encode: P10.2. -/
def encAns (k n : Int) (s : ByteArray) : ByteArray × Int :=
  if (s.size : Int) > 2097152 then (⟨#[]⟩, 2) else if ¬ (k = 1 ∨ k = 2) then (⟨#[]⟩, 1) else if ¬ (1 ≤ n ∧ n < 4294967295) then (⟨#[]⟩, 3) else (⟨(encL k.toNat n.toNat s.data.toList).toArray⟩, 0)
theorem encode_f (k n : Int) (s : ByteArray) : frame_Encode.f k n s = some (encAns k n s) := by
  unfold frame_Encode.f encAns
  by_cases c1 : (s.size : Int) > 2097152
  · rw [if_pos c1, if_pos c1]
  · rw [if_neg c1, if_neg c1]
    have hk : frame_isKind.f k = some (decide (k = 1 ∨ k = 2)) := by
      unfold frame_isKind.f
      by_cases h : k = 1
      · rw [if_pos h]; simp [h]
      · rw [if_neg h]
        have : (k == 2) = decide (k = 1 ∨ k = 2) := by rw [Bool.eq_iff_iff]; simp [h]
        rw [this]
    rw [hk, Option.bind_some]
    by_cases c2 : k = 1 ∨ k = 2
    · rw [if_pos (decide_eq_true c2), if_neg (not_not_intro c2)]
      have hn : frame_isNumber.f n = some (decide (1 ≤ n ∧ n < 4294967295)) := by
        unfold frame_isNumber.f
        by_cases h : 1 ≤ n
        · rw [if_pos h]; simp [h]
        · rw [if_neg h]; simp [h]
      rw [hn, Option.bind_some]
      by_cases c3 : 1 ≤ n ∧ n < 4294967295
      · rw [if_pos (decide_eq_true c3), if_neg (not_not_intro c3)]
        obtain ⟨n, rfl⟩ := Int.eq_ofNat_of_zero_le (show 0 ≤ n by omega)
        obtain ⟨k, rfl⟩ := Int.eq_ofNat_of_zero_le (show 0 ≤ k by omega)
        rw [Int.toNat_natCast, Int.toNat_natCast]
        have hl : s.data.toList.length = s.size := toList_length s
        have e0 : ([183, ((k : Nat) : Int) % 256] : List Int) = ints [0xB7, UInt8.ofNat k] := by
          simp only [ints, List.map_cons, List.map_nil, UInt8.toNat_ofNat']
          rfl
        rw [e0, four_f _ _ (by rw [ints_length]; simp), Option.bind_some, four_f _ _ (by rw [← ints_append, ints_length]; simp [be4_length]), Option.bind_some, ← ints_append, ← ints_append]
        have eh : [0xB7, UInt8.ofNat k] ++ be4 n ++ be4 s.size = headL k n s.data.toList.length := by rw [hl]; rfl
        rw [eh, str_ints, sum_f _ (by show (headL k n s.data.toList.length).toArray.size ≤ _; simp [headL_length]), Option.bind_some, four_f _ _ (by rw [ints_length, headL_length]; omega), Option.bind_some, ← ints_append]
        have el : (ints (headL k n s.data.toList.length ++ be4 (sumL (headL k n s.data.toList.length)))).length = 14 := by rw [ints_length]; simp [headL_length, be4_length]
        rw [if_pos (by rw [el]; omega), Option.bind_some, bytesOf_ints, ← ints_append]
        have ef : headL k n s.data.toList.length ++ be4 (sumL (headL k n s.data.toList.length)) ++ s.data.toList = fullL k n s.data.toList := rfl
        have efl : (fullL k n s.data.toList).length = 14 + s.size := by rw [fullL_length, hl]
        rw [ef, str_ints, sum_f _ (by show (fullL k n s.data.toList).toArray.size ≤ _; simp [efl]; omega), Option.bind_some, four_f _ _ (by rw [ints_length, efl]; omega), Option.bind_some, ← ints_append, str_ints]
        rfl
      · rw [if_neg (by rw [decide_eq_true_eq]; exact c3), if_pos c3]
    · rw [if_neg (by rw [decide_eq_true_eq]; exact c2), if_pos c2]
end Go.Proofs.Ytcndhgpaoihblaa.Fr
