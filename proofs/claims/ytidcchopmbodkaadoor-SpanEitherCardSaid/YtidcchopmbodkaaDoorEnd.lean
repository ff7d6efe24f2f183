/- span.end's printed answer is the plain one: an end's number, or that there is none. -/
import Derived.Test.YtidcchopmbodkaaDoorPSpanEnd
import Derived.Test.YtidcchopmbodkaaDoorPar
namespace Go.Proofs.YtidcchopmbodkaaDoor.Sp
open Go.RowKit Go.Proofs.YtidcchopmbodkaaDoorW.PrintWords Go.Proofs.YtidcchopmbodkaaDoorW.PrintLast Go.Proofs.YtidcchopmbodkaaDoorW.PrintMore
open Par
theorem bt_list (s : ByteArray) (i : Nat) (h : i < s.size) : ∃ c, s.data.toList[i]? = some c ∧ bt s (i : Int) = (c.toNat : Int) := by
  refine ⟨s[i], ?_, ?_⟩
  · rw [Array.getElem?_toList]
    exact Array.getElem?_eq_getElem h
  · unfold bt
    rw [dif_pos (by simpa using h)]
    rfl
theorem toList_is (s : ByteArray) : s.toList = s.data.toList := ByteArray.toList_eq s
theorem end_l0 (t : ByteArray) (hn : t.size ≤ 10) (d : Nat) : ∀ (i m k : Nat), i + d = t.size → m < 10 ^ i → d < k →
    span_end.l0 k t m t.size i = some (if (t.data.toList.drop i).all dig then (((valF m (t.data.toList.drop i) : Nat) : Int), decide (((valF m (t.data.toList.drop i) : Nat) : Int) ≤ 4294967295)) else (0, false)) := by
  have hl : t.data.toList.length = t.size := Array.length_toList
  induction d with
  | zero =>
    intro i m k hi hm hk
    obtain ⟨k, rfl⟩ : ∃ j, k = j + 1 := ⟨k - 1, by omega⟩
    rw [List.drop_of_length_le (by omega)]
    simp only [span_end.l0]
    rw [if_neg (by omega)]
    rfl
  | succ d ih =>
    intro i m k hi hm hk
    obtain ⟨k, rfl⟩ : ∃ j, k = j + 1 := ⟨k - 1, by omega⟩
    obtain ⟨c, hc, hb⟩ := bt_list t i (by omega)
    have hd : t.data.toList.drop i = c :: t.data.toList.drop (i + 1) := by
      rw [List.drop_eq_getElem_cons (by omega)]
      congr 1
      have := List.getElem?_eq_getElem (l := t.data.toList) (i := i) (by omega)
      rw [this] at hc
      exact Option.some.inj hc
    have hp : 10 ^ (i + 1) ≤ 10 ^ 10 := Nat.pow_le_pow_right (by omega) (by omega)
    have hp1 : 10 ^ (i + 1) = 10 ^ i * 10 := Nat.pow_succ _ _
    have hc256 : c.toNat < 256 := c.toNat_lt
    simp only [span_end.l0]
    rw [if_pos (by omega), if_pos (by omega), if_pos (by omega), hb, hd]
    by_cases h1 : (c.toNat : Int) < 48
    · have hdg : dig c = false := by rw [Bool.eq_false_iff]; intro h; rw [dig_iff] at h; omega
      rw [if_pos h1]; simp [hdg]
    · rw [if_neg h1]
      by_cases h2 : (c.toNat : Int) > 57
      · have hdg : dig c = false := by rw [Bool.eq_false_iff]; intro h; rw [dig_iff] at h; omega
        rw [if_pos h2]; simp [hdg]
      · have hdg : dig c = true := by rw [dig_iff]; omega
        rw [if_neg h2]
        have hm2 : 10 * m + (c.toNat - 48) < 10 ^ (i + 1) := by omega
        have e1 : wrap64 ((wrap64 (10 * (m : Int))) + (((c.toNat : Int) - 48) % 256)) = ((10 * m + (c.toNat - 48) : Nat) : Int) := by
          rw [show ((c.toNat : Int) - 48) % 256 = ((c.toNat - 48 : Nat) : Int) from by omega, show wrap64 (10 * (m : Int)) = 10 * (m : Int) from by unfold wrap64; omega]
          unfold wrap64; omega
        have e2 : wrap64 ((i : Int) + 1) = ((i + 1 : Nat) : Int) := by unfold wrap64; omega
        rw [e1, e2, ih (i + 1) _ k (by omega) hm2 (by omega)]
        simp only [List.all_cons, hdg, Bool.true_and]
        rfl
/-- What span.end answers. -/
def endA (t : List UInt8) : Int × Bool := match endP t with
  | some n => ((n : Int), true)
  | none => (if t = [] then 0 else if t.head? = some 48 then 0 else if 10 < t.length then 0 else if t.all dig then ((val t : Nat) : Int) else 0, false)
theorem end_f (t : ByteArray) (k : Nat) (hk : 13 ≤ k) : span_end.f k t = some (endA t.data.toList) := by
  obtain ⟨k, rfl⟩ : ∃ j, k = j + 1 := ⟨k - 1, by omega⟩
  have hl : t.data.toList.length = t.size := Array.length_toList
  unfold span_end.f
  rw [toList_is]
  by_cases h1 : t.data.toList = [42]
  · rw [if_pos h1, h1]; rfl
  · rw [if_neg h1]
    by_cases h2 : t.data.toList = []
    · rw [if_pos h2, h2]; simp only [span_end.j0]; rfl
    · have hp : 0 < t.size := by
        rcases Nat.eq_zero_or_pos t.size with h | h
        · rw [← hl] at h; exact absurd (List.length_eq_zero_iff.1 h) h2
        · exact h
      obtain ⟨c, hc, hb⟩ := bt_list t 0 hp
      have hh : t.data.toList.head? = some c := by rw [List.head?_eq_getElem?]; exact hc
      rw [if_neg h2, if_pos (by omega), show bt t 0 = (c.toNat : Int) from hb]
      by_cases h3 : c = 48
      · subst h3
        rw [if_pos (by decide)]
        simp only [span_end.j0]
        unfold endA endP
        rw [if_neg h1, if_neg h2, if_pos hh]
        simp only [if_neg h2, if_pos hh, if_true]
      · have h3' : c.toNat ≠ 48 := fun e => h3 ((byte_eq c 48 (by omega)).2 e)
        have hh' : ¬ t.data.toList.head? = some 48 := by rw [hh]; intro e; injection e with e; exact h3 e
        rw [if_neg (by omega : ¬ (c.toNat : Int) = 48)]
        by_cases h4 : 10 < t.size
        · rw [decide_eq_true (by omega : ((t.size : Int) > 10))]
          simp only [span_end.j0]
          unfold endA endP
          rw [if_neg h1, if_neg h2, if_neg hh', if_pos (show 10 < t.data.toList.length by omega)]
          rw [if_pos trivial]
          simp only [if_neg h2, if_neg hh', if_pos (show 10 < t.data.toList.length by omega)]
        · rw [decide_eq_false (by omega : ¬ ((t.size : Int) > 10))]
          simp only [span_end.j0]
          rw [if_neg (by simp)]
          have h5 := end_l0 t (by omega) t.size 0 0 k (by omega) (by omega) (by omega)
          rw [List.drop_zero] at h5
          refine Eq.trans h5 ?_
          unfold endA endP
          rw [if_neg h1, if_neg h2, if_neg hh', if_neg (show ¬ 10 < t.data.toList.length by omega)]
          simp only [if_neg h2, if_neg hh', if_neg (show ¬ 10 < t.data.toList.length by omega)]
          by_cases h6 : t.data.toList.all dig
          · simp only [if_pos h6]
            show some (((val t.data.toList : Nat) : Int), decide (((val t.data.toList : Nat) : Int) ≤ 4294967295)) = _
            by_cases h7 : val t.data.toList ≤ 4294967295
            · rw [if_pos h7, decide_eq_true (by omega)]
            · rw [if_neg h7, decide_eq_false (by omega)]
          · simp only [if_neg h6]
theorem endA_some {t : List UInt8} {n : Nat} (h : endP t = some n) : endA t = ((n : Int), true) := by unfold endA; rw [h]
theorem endA_none {t : List UInt8} (h : endP t = none) : (endA t).2 = false := by unfold endA; rw [h]
theorem endP_le {t : List UInt8} {n : Nat} (h : endP t = some n) : n ≤ 4294967295 := by
  unfold endP at h
  repeat' split at h
  all_goals first | (injection h with h; subst h; first | omega | assumption) | cases h
end Go.Proofs.YtidcchopmbodkaaDoor.Sp
