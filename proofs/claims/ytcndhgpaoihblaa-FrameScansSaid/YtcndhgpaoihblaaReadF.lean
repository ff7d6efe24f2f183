/- What the printed function of frame.read comes to: the plain frame at a place. -/
import Derived.Test.YtcndhgpaoihblaaFr2
import Derived.Test.YtcndhgpaoihblaaPlain
import Derived.Laws.BitsLemmas
namespace Go.Proofs.Ytcndhgpaoihblaa.Fr
open Go.RowKit Go.Proofs.YtcndhgpaoihblaaW.PrintWords
open Plain Crc

theorem bt_eq (s : ByteArray) (i : Nat) (h : i < s.size) : bt s i = (s[i].toNat : Int) := (bt_at s i h).symm
theorem toList_length (s : ByteArray) : s.data.toList.length = s.size := by simp
theorem w64 {x : Int} (h0 : -9223372036854775808 ≤ x) (h1 : x ≤ 9223372036854775807) : wrap64 x = x := IntWalk.wrap64_in x ⟨h0, h1⟩
theorem add3 (i m s : Nat) (hi : i ≤ s) (hs : s ≤ 4611686018427387904) (hm : m ≤ 2097152) : wrap64 (wrap64 ((i : Int) + (14 + (m : Int))) + 4) = ((i + 18 + m : Nat) : Int) := by
  rw [w64 (x := (i : Int) + (14 + (m : Int))) (by omega) (by omega), w64 (by omega) (by omega)]
  omega
theorem wraps_i64 (n : Int) (h₀ : 0 ≤ n) (h₁ : n < 2 ^ 63) : IntKind.i64.wrap n = n := by rw [IntKind.wrap_i64]; omega
theorem or_i64 (a b : Nat) (i : Nat) (hb : b < 2 ^ i) (ha : a % 2 ^ i = 0) (ha2 : a < 2 ^ 62) (hi : i ≤ 62) : Go.bits .or .i64 (a : Int) (b : Int) = ((a + b : Nat) : Int) := by
  have hb2 : b < 2 ^ 62 := Nat.lt_of_lt_of_le hb (Nat.pow_le_pow_right (by decide) hi)
  have h := (bits_nat .i64 63 (by decide) wraps_i64 a b (by omega) (by omega)).2
  rw [h]
  congr 1
  have e : a = 2 ^ i * (a / 2 ^ i) := by have := Nat.div_add_mod a (2 ^ i); omega
  rw [e]
  rw [Nat.two_pow_add_eq_or_of_lt hb]
theorem get_data (s : ByteArray) (i : Nat) (h : i < s.size) : s.data.toList[i]? = some s[i] := by
  rw [Array.getElem?_toList, Array.getElem?_eq_getElem h]
  rfl
theorem num4_bt (s : ByteArray) (h : 4 ≤ s.size) : num4 s.data.toList = ((s[0].toNat * 256 + s[1].toNat) * 256 + s[2].toNat) * 256 + s[3].toNat := by
  have e : s.data.toList = s[0] :: s[1] :: s[2] :: s[3] :: s.data.toList.drop 4 := by
    apply List.ext_getElem?
    intro j
    match j with
    | 0 => exact get_data s 0 (by omega)
    | 1 => exact get_data s 1 (by omega)
    | 2 => exact get_data s 2 (by omega)
    | 3 => exact get_data s 3 (by omega)
    | j + 4 => simp [List.getElem?_drop, Nat.add_comm]
  rw [e]
  rfl
theorem number_f (s : ByteArray) (h : 4 ≤ s.size) : frame_number.f s = some (num4 s.data.toList : Int) := by
  have h0 := s[0].toNat_lt
  have h1 := s[1].toNat_lt
  have h2 := s[2].toNat_lt
  have h3 := s[3].toNat_lt
  unfold frame_number.f
  rw [if_pos (by omega), if_pos (by omega), if_pos (by omega), if_pos (by omega)]
  have b0 := bt_eq s 0 (by omega)
  have b1 := bt_eq s 1 (by omega)
  have b2 := bt_eq s 2 (by omega)
  have b3 := bt_eq s 3 (by omega)
  rw [show bt s 0 = (s[0].toNat : Int) from b0, show bt s 1 = (s[1].toNat : Int) from b1, show bt s 2 = (s[2].toNat : Int) from b2, show bt s 3 = (s[3].toNat : Int) from b3]
  rw [w64 (x := (s[0].toNat : Int)) (by omega) (by omega), w64 (x := (s[1].toNat : Int)) (by omega) (by omega), w64 (x := (s[2].toNat : Int)) (by omega) (by omega), w64 (x := (s[3].toNat : Int)) (by omega) (by omega)]
  rw [w64 (by omega) (by omega), w64 (by omega) (by omega), w64 (by omega) (by omega)]
  have e1 := or_i64 (s[0].toNat * 16777216) (s[1].toNat * 65536) 24 (by omega) (by omega) (by omega) (by omega)
  have e2 := or_i64 (s[0].toNat * 16777216 + s[1].toNat * 65536) (s[2].toNat * 256) 16 (by omega) (by omega) (by omega) (by omega)
  have e3 := or_i64 (s[0].toNat * 16777216 + s[1].toNat * 65536 + s[2].toNat * 256) s[3].toNat 8 (by omega) (by omega) (by omega) (by omega)
  simp only [Int.natCast_mul, Int.natCast_add, Int.cast_ofNat_Int] at e1 e2 e3
  rw [e1, e2, e3, num4_bt s h]
  exact congrArg some (by omega)
theorem sum_f (s : ByteArray) (h : s.size ≤ 9223372036854775807) : frame_Sum.f s = some (sumL s.data.toList : Int) := by
  unfold frame_Sum.f
  rw [if_pos h]
  rfl
theorem ext_data (s : ByteArray) (a b : Nat) : (s.extract a b).data.toList = (s.data.toList.take b).drop a := by
  rw [ByteArray.data_extract, Array.toList_extract, List.extract_eq_take_drop, ← List.drop_take]
theorem kind_f (k : Nat) : frame_isKind.f (k : Int) = some (k == 1 || k == 2) := by
  unfold frame_isKind.f
  by_cases h : k = 1
  · rw [if_pos (by omega)]; simp [h]
  · rw [if_neg (by omega)]
    have : ((k : Int) == 2) = (k == 2) := by rw [Bool.eq_iff_iff]; simp; omega
    rw [this]; simp [h]
theorem isnum_f (n : Nat) : frame_isNumber.f (n : Int) = some (decide (1 ≤ n) && decide (n < 4294967295)) := by
  unfold frame_isNumber.f
  by_cases h : 1 ≤ n
  · rw [if_pos (by omega)]
    have : decide ((n : Int) < 4294967295) = decide (n < 4294967295) := by rw [decide_eq_decide]; omega
    rw [this]; simp [h]
  · rw [if_neg (by omega)]; simp [h]
/-- What a read answers: in the print's form. -/
def ansOf (s : ByteArray) (i : Nat) : Option (Nat × Nat × Nat) → Int × Int × Int × ByteArray × Int × Bool
  | none => (0, 0, 0, ⟨#[]⟩, 0, false)
  | some (k, n, m) => (k, n, i, (s.extract i s.size).extract 14 (14 + m), (i + 18 + m : Nat), true)
theorem read_j0 (s t : ByteArray) (i : Nat) (hi : i ≤ s.size) (hs : s.size ≤ 4611686018427387904) (ht : t = s.extract i s.size) (hl : 18 ≤ t.size) (b : Bool)
    (hb : frameL t.data.toList = if b = true then none else
      if fits (t.data.toList.getD 1 0).toNat (num4 (t.data.toList.drop 2)) (num4 (t.data.toList.drop 6)) = false then none
      else if t.data.toList.length < 18 + num4 (t.data.toList.drop 6) then none
      else if num4 (t.data.toList.drop (14 + num4 (t.data.toList.drop 6))) ≠ sumL (t.data.toList.take (14 + num4 (t.data.toList.drop 6))) then none
      else some ((t.data.toList.getD 1 0).toNat, num4 (t.data.toList.drop 2), num4 (t.data.toList.drop 6))) :
    frame_read.j0 1 t i b = some (ansOf s i (frameL t.data.toList)) := by
  have htl : t.data.toList.length = t.size := toList_length t
  have hts : t.size ≤ s.size := by rw [ht, ByteArray.size_extract]; omega
  rw [hb]
  cases b with
  | true => simp [frame_read.j0, ansOf]
  | false =>
    simp only [frame_read.j0, Bool.false_eq_true, if_false]
    have n2 := number_f (t.extract 2 t.size) (by rw [ByteArray.size_extract]; omega)
    have n6 := number_f (t.extract 6 t.size) (by rw [ByteArray.size_extract]; omega)
    have ex : ∀ j, (t.extract j t.size).data.toList = t.data.toList.drop j := fun j => by
      rw [ext_data, ← htl, List.take_length]
    rw [ex] at n2 n6
    have hb1 : bt t 1 = ((t.data.toList.getD 1 0).toNat : Int) := by
      have := bt_eq t 1 (by omega)
      rw [show bt t 1 = (t[1].toNat : Int) from this, List.getD_eq_getElem?_getD, get_data t 1 (by omega)]
      rfl
    have hk := (t.data.toList.getD 1 0).toNat_lt
    have hm := num4_lt (t.data.toList.drop 6)
    have hn := num4_lt (t.data.toList.drop 2)
    generalize hkk : (t.data.toList.getD 1 0).toNat = kind at *
    generalize hnn : num4 (t.data.toList.drop 2) = number at *
    generalize hmm : num4 (t.data.toList.drop 6) = m at *
    rw [if_pos (by omega), if_pos (by omega), n2, Option.bind_some, if_pos (by omega), n6, Option.bind_some]
    rw [hb1, w64 (x := (kind : Int)) (by omega) (by omega), kind_f, Option.bind_some, w64 (x := 14 + (m : Int)) (by omega) (by omega), w64 (x := 14 + (m : Int) - 14) (by omega) (by omega), w64 (x := 14 + (m : Int) + 4) (by omega) (by omega)]
    have tn : (14 + (m : Int)).toNat = 14 + m := by omega
    rw [tn]
    by_cases k1 : (kind == 1 || kind == 2) = true
    · rw [if_pos k1, isnum_f, Option.bind_some]
      by_cases k2 : (decide (1 ≤ number) && decide (number < 4294967295)) = true
      · rw [if_pos k2]
        by_cases k3 : m ≤ 2097152
        · have hf : fits kind number m = true := by
            unfold fits
            rw [k1, Bool.true_and, k2, Bool.true_and]
            exact decide_eq_true k3
          rw [if_neg (show ¬ (fits kind number m = false) by simp [hf]), if_neg (by omega)]
          by_cases k4 : t.size < 18 + m
          · rw [if_pos (show t.data.toList.length < 18 + m by omega), if_pos (by omega)]; rfl
          · rw [if_neg (show ¬ t.data.toList.length < 18 + m by omega), if_neg (by omega), if_pos (by omega), if_pos (by omega)]
            have ne := number_f (t.extract (14 + m) t.size) (by rw [ByteArray.size_extract]; omega)
            rw [ex] at ne
            rw [ne, Option.bind_some, sum_f _ (by rw [ByteArray.size_extract]; omega), Option.bind_some]
            have et : (t.extract 0 (14 + m)).data.toList = t.data.toList.take (14 + m) := by rw [ext_data, List.drop_zero]
            rw [et]
            by_cases k5 : num4 (t.data.toList.drop (14 + m)) = sumL (t.data.toList.take (14 + m))
            · rw [if_neg (show ¬ (num4 (t.data.toList.drop (14 + m)) ≠ sumL (t.data.toList.take (14 + m))) by simp [k5]), if_pos (by omega), if_pos (by omega)]
              simp only [ansOf, ← ht]
              rw [add3 i m s.size hi hs k3]
            · rw [if_pos (show num4 (t.data.toList.drop (14 + m)) ≠ sumL (t.data.toList.take (14 + m)) from k5), if_neg (by omega)]; rfl
        · have hf : fits kind number m = false := by
            unfold fits
            rw [decide_eq_false k3, Bool.and_false]
          rw [if_pos (show fits kind number m = false from hf), if_pos (by omega)]; rfl
      · have hf : fits kind number m = false := by
          unfold fits
          rw [Bool.and_assoc (kind == 1 || kind == 2), Bool.eq_false_iff.2 k2, Bool.and_false, Bool.false_and]
        rw [if_pos (show fits kind number m = false from hf), if_neg k2]; rfl
    · have hf : fits kind number m = false := by
        unfold fits
        rw [Bool.eq_false_iff.2 k1, Bool.false_and, Bool.false_and, Bool.false_and]
      rw [if_pos (show fits kind number m = false from hf), if_neg k1]; rfl
theorem read_f (s : ByteArray) (i : Nat) (hi : i ≤ s.size) (hs : s.size ≤ 4611686018427387904) :
    frame_read.f 1 s i = some (ansOf s i (frameL (s.data.toList.drop i))) := by
  have hd : (s.extract i s.size).data.toList = s.data.toList.drop i := by
    rw [ext_data, ← toList_length s, List.take_length]
  rw [← hd]
  have hex : (s.extract ((i : Int)).toNat s.size) = s.extract i s.size := by rw [Int.toNat_natCast]
  have hts : (s.extract i s.size).size ≤ s.size := by rw [ByteArray.size_extract]; omega
  have hj := read_j0 s (s.extract i s.size) i hi hs rfl
  unfold frame_read.f
  rw [hex, if_pos (by omega), if_pos (by omega)]
  generalize s.extract i s.size = t at *
  have htl : t.data.toList.length = t.size := toList_length t
  by_cases c1 : t.size < 18
  · rw [if_pos (by omega)]
    have : frameL t.data.toList = none := by unfold frameL; rw [if_pos (by omega)]
    rw [this]
    simp [frame_read.j0, ansOf]
  · rw [if_neg (by omega), if_pos (by omega)]
    have h0 : t.data.toList.head? = some t[0] := by rw [List.head?_eq_getElem?, get_data t 0 (by omega)]
    have hb0 : bt t 0 = (t[0].toNat : Int) := bt_eq t 0 (by omega)
    by_cases c2 : t[0] = 0xB7
    · rw [if_pos (by rw [hb0, c2]; rfl), if_pos (by omega)]
      have n10 := number_f (t.extract 10 t.size) (by rw [ByteArray.size_extract]; omega)
      have e10 : (t.extract 10 t.size).data.toList = t.data.toList.drop 10 := by rw [ext_data, ← htl, List.take_length]
      have et : (t.extract 0 10).data.toList = t.data.toList.take 10 := by rw [ext_data, List.drop_zero]
      rw [e10] at n10
      rw [n10, Option.bind_some, if_pos (by omega), sum_f _ (by rw [ByteArray.size_extract]; omega), Option.bind_some, et]
      refine hj (by omega) _ ?_
      conv => lhs; unfold frameL
      rw [if_neg (by omega), if_neg (by rw [h0, c2]; simp)]
      by_cases c3 : num4 (t.data.toList.drop 10) = sumL (t.data.toList.take 10)
      · rw [if_neg (show ¬ (num4 (t.data.toList.drop 10) ≠ sumL (t.data.toList.take 10)) by simp [c3]), if_neg (show ¬ (((num4 (t.data.toList.drop 10) : Nat) : Int) != ((sumL (t.data.toList.take 10) : Nat) : Int)) = true by simp [c3])]
      · rw [if_pos (show num4 (t.data.toList.drop 10) ≠ sumL (t.data.toList.take 10) from c3), if_pos (show (((num4 (t.data.toList.drop 10) : Nat) : Int) != ((sumL (t.data.toList.take 10) : Nat) : Int)) = true by rw [bne_iff_ne]; omega)]
    · have hne : ¬ bt t 0 = 183 := by
        rw [hb0]
        intro e
        apply c2
        apply UInt8.toNat_inj.1
        show t[0].toNat = 183
        omega
      rw [if_neg hne]
      have : frameL t.data.toList = none := by
        unfold frameL
        rw [if_neg (by omega), if_pos (by rw [h0]; simpa using c2)]
      rw [this]
      simp [frame_read.j0, ansOf]
end Go.Proofs.Ytcndhgpaoihblaa.Fr
