import Derived.Test.YtjlchnmpebdggaaDoorHdr3
import Derived.Test.YtjlchnmpebdggaaDoorHdr6
import Derived.Test.YtjlchnmpebdggaaDoorHdr5
import Derived.Test.YtjlchnmpebdggaaDoorHdr2
import Derived.Test.YtjlchnmpebdggaaDoorHdr7
import Derived.Test.YtjlchnmpebdggaaDoorHdr4
import Derived.Test.YtjlchnmpebdggaaDoorHdr14
import Derived.Test.YtjlchnmpebdggaaDoorHdr8
import Derived.Test.YtjlchnmpebdggaaDoorHdr11
import Derived.Test.YtjlchnmpebdggaaDoorHdr12
import Derived.Test.YtjlchnmpebdggaaDoorHdr13
import Derived.Test.YtjlchnmpebdggaaDoorRows
import Derived.ProofKit
import Derived.LaidMore
import Derived.OpenShut
import Derived.Stop.Joined
import Derived.Deep.CondSized
import Derived.LaidLaws
section
namespace Go.Proofs.YtjlchnmpebdggaaDoor.Mo
open Go.RowKit Go.Proofs.YtjlchnmpebdggaaDoorW.PrintWords
theorem count_l0 (s : ByteArray) (hs : s.size ≤ 4) (d : Nat) : ∀ (k i : Nat), i ≤ s.size → s.size - i = d → 2 * d + 2 < k → (s.data.toList.take i).all isDig = true →
    postbagref2_count.l0 k s (dval (s.data.toList.take i)) (i : Int) = if (s.data.toList.drop i).all isDig = true then some (dval s.data.toList, decide (1 ≤ s.size)) else some (0, false) := by
  induction d with
  | zero =>
    intro k i hi hd hk ha
    obtain ⟨k, rfl⟩ : ∃ m, k = m + 2 := ⟨k - 2, by omega⟩
    have e : i = s.size := by omega
    subst e
    have hl := toList_len s
    simp only [postbagref2_count.l0]
    rw [if_neg (by omega)]
    simp only [postbagref2_count.j1]
    have hdn : (s.data.toList.drop s.size).all isDig = true := by rw [List.drop_of_length_le (by omega)]; rfl
    rw [if_neg (by decide), if_pos hdn, List.take_of_length_le (by omega)]
    by_cases h0 : (s.size : Int) > 0
    · rw [if_pos h0, decide_eq_true (by omega), decide_eq_true (by omega)]
    · rw [if_neg h0, decide_eq_false (by omega)]
  | succ d ih =>
    intro k i hi hd hk ha
    obtain ⟨k, rfl⟩ : ∃ m, k = m + 2 := ⟨k - 2, by omega⟩
    have hl := toList_len s
    have hlt : i < s.data.toList.length := by omega
    have hb := bt_get s i hlt
    have h8 := (s.data.toList[i]).toNat_lt
    have hdr : s.data.toList.drop i = s.data.toList[i] :: s.data.toList.drop (i + 1) := List.drop_eq_getElem_cons hlt
    have htk : s.data.toList.take (i + 1) = s.data.toList.take i ++ [s.data.toList[i]] := by rw [List.take_succ_eq_append_getElem hlt]
    obtain ⟨b1, b2⟩ := dval_bound _ ha
    rw [List.length_take, Nat.min_eq_left (by omega)] at b2
    have b3 : dval (s.data.toList.take i) < 10000 := by
      have : (10 : Int) ^ i ≤ 10 ^ 4 := by
        have h4 : i = 0 ∨ i = 1 ∨ i = 2 ∨ i = 3 := by omega
        rcases h4 with rfl | rfl | rfl | rfl <;> decide
      omega
    simp only [postbagref2_count.l0]
    rw [if_pos (by omega), decide_eq_true (by omega)]
    simp only [postbagref2_count.j1]
    rw [if_pos trivial, if_pos (by omega), if_pos (by omega), hb, hdr]
    generalize hc : s.data.toList[i] = c at *
    by_cases c1 : c.toNat < 48
    · rw [if_pos (by omega), if_neg (by simp [isDig]; omega)]
    · rw [if_neg (by omega)]
      by_cases c2 : c.toNat > 57
      · rw [if_pos (by omega), if_neg (by simp [isDig]; omega)]
      · rw [if_neg (by omega)]
        have hdig : isDig c = true := (isDig_iff c).2 ⟨by omega, by omega⟩
        have e1 : wrap64 ((wrap64 (10 * dval (s.data.toList.take i))) + (((c.toNat : Int) - 48) % 256)) = dval (s.data.toList.take (i + 1)) := by
          rw [htk, dval_snoc, digit_step _ _ b1 (by omega) (by omega) (by omega)]
        rw [e1, next_step i (by omega), ih k (i + 1) (by omega) (by omega) (by omega) (by rw [htk, List.all_append, ha]; simp [hdig])]
        simp only [List.all_cons, hdig, Bool.true_and]
theorem count_f (k : Nat) (hk : 20 ≤ k) (s : ByteArray) (hs : s.size ≤ 4) : postbagref2_count.f k s = some (digitsP s) := by
  have hl := toList_len s
  unfold postbagref2_count.f
  have := count_l0 s hs s.size k 0 (by omega) (by omega) (by omega) rfl
  simp only [List.take_zero, List.drop_zero] at this
  rw [show ((0 : Nat) : Int) = 0 from rfl] at this
  have e0 : dval [] = 0 := rfl
  rw [e0] at this
  rw [this]
  unfold digitsP
  by_cases ha : s.data.toList.all isDig = true
  · rw [if_pos ha]
    by_cases h1 : 1 ≤ s.size
    · rw [if_pos ⟨h1, hs, ha⟩, decide_eq_true h1]
    · rw [if_neg (fun h => h1 h.1), decide_eq_false h1]
      have hz : s.data.toList = [] := List.eq_nil_of_length_eq_zero (by omega)
      rw [hz]
      rfl
  · rw [if_neg ha, if_neg (fun h => ha h.2.2)]
def low (c : UInt8) : UInt8 := if 65 ≤ c ∧ c ≤ 90 then c + 32 else c
def lowerP (s : ByteArray) : ByteArray := ⟨(s.data.toList.map low).toArray⟩
set_option maxRecDepth 20000 in
theorem low_up : ∀ c : UInt8, low (up c) = low c ∧ up (low c) = up c := by
  intro c
  have h : ∀ n : Fin 256, low (up (UInt8.ofNat n.val)) = low (UInt8.ofNat n.val) ∧ up (low (UInt8.ofNat n.val)) = up (UInt8.ofNat n.val) := by decide
  have := h ⟨c.toNat, c.toNat_lt⟩
  simpa using this
set_option maxRecDepth 20000 in
theorem low_toNat (c : UInt8) : ((low c).toNat : Int) = if 65 ≤ c.toNat ∧ c.toNat ≤ 90 then ((c.toNat : Int) + 32) % 256 else (c.toNat : Int) := by
  have h : ∀ n : Fin 256, ((low (UInt8.ofNat n.val)).toNat : Int) = if 65 ≤ (UInt8.ofNat n.val).toNat ∧ (UInt8.ofNat n.val).toNat ≤ 90 then (((UInt8.ofNat n.val).toNat : Int) + 32) % 256 else ((UInt8.ofNat n.val).toNat : Int) := by decide
  have := h ⟨c.toNat, c.toNat_lt⟩
  simpa using this
theorem map_low_up (l : List UInt8) : (l.map up).map low = l.map low := by rw [List.map_map]; exact List.map_congr_left fun c _ => (low_up c).1
theorem map_up_low (l : List UInt8) : (l.map low).map up = l.map up := by rw [List.map_map]; exact List.map_congr_left fun c _ => (low_up c).2
theorem same_case (x t : ByteArray) : (lowerP x).toList = (lowerP t).toList ↔ (upperP x).toList = (upperP t).toList := by
  simp only [ByteArray.toList_eq]
  show x.data.toList.map low = t.data.toList.map low ↔ x.data.toList.map up = t.data.toList.map up
  constructor
  · intro h; rw [← map_up_low, h, map_up_low]
  · intro h; rw [← map_low_up, h, map_low_up]
theorem lower_l0 (s : ByteArray) (hs : s.size ≤ 140737488351232) (d : Nat) : ∀ (k i : Nat), i ≤ s.size → s.size - i = d → d < k →
    postbagref2_lower.l0 k s ((s.data.toList.take i).map fun c => ((low c).toNat : Int)) (i : Int) = some (lowerP s) := by
  induction d with
  | zero =>
    intro k i hi hd hk
    obtain ⟨k, rfl⟩ : ∃ m, k = m + 1 := ⟨k - 1, by omega⟩
    have e : i = s.size := by omega
    subst e
    have hl := toList_len s
    simp only [postbagref2_lower.l0]
    rw [if_neg (by omega), List.take_of_length_le (by omega)]
    congr 1
    apply ByteArray.ext
    apply Array.toList_inj.1
    rw [strOfNums_data, List.map_map]
    show _ = s.data.toList.map low
    exact List.map_congr_left fun c _ => by show UInt8.ofNat ((low c).toNat : Int).toNat = low c; rw [Int.toNat_natCast]; exact UInt8.ofNat_toNat
  | succ d ih =>
    intro k i hi hd hk
    obtain ⟨k, rfl⟩ : ∃ m, k = m + 1 := ⟨k - 1, by omega⟩
    have hl := toList_len s
    have hlt : i < s.data.toList.length := by omega
    have hb := bt_get s i hlt
    have h8 := (s.data.toList[i]).toNat_lt
    have htk : s.data.toList.take (i + 1) = s.data.toList.take i ++ [s.data.toList[i]] := by rw [List.take_succ_eq_append_getElem hlt]
    have hlen : ((s.data.toList.take i).map fun c => ((low c).toNat : Int)).length < 140737488355328 := by rw [List.length_map, List.length_take]; omega
    have hnext := ih k (i + 1) (by omega) (by omega) (by omega)
    rw [htk, List.map_append] at hnext
    have hw : wrap64 ((i : Int) + 1) = ((i + 1 : Nat) : Int) := by rw [IntWalk.wrap64_in _ ⟨by omega, by omega⟩]; omega
    have hlo := low_toNat (s.data.toList[i])
    simp only [postbagref2_lower.l0]
    rw [if_pos (by omega), if_pos (by omega), hb, hw]
    generalize hc : s.data.toList[i] = c at *
    rw [if_pos hlen, if_pos hlen]
    have hm : List.map (fun c => ((low c).toNat : Int)) [c] = [((low c).toNat : Int)] := rfl
    rw [hm] at hnext
    by_cases c1 : (c.toNat : Int) ≥ 65
    · rw [if_pos c1]
      by_cases c2 : (c.toNat : Int) ≤ 90
      · rw [if_pos c2]
        rw [if_pos ⟨by omega, by omega⟩] at hlo
        rw [← hlo]
        exact hnext
      · rw [if_neg c2]
        rw [if_neg (by omega)] at hlo
        rw [← hlo]
        exact hnext
    · rw [if_neg c1]
      rw [if_neg (by omega)] at hlo
      rw [← hlo]
      exact hnext
theorem lower_f (k : Nat) (s : ByteArray) (hs : s.size ≤ 140737488351232) (hk : s.size < k) : postbagref2_lower.f k s = some (lowerP s) := by
  unfold postbagref2_lower.f
  have := lower_l0 s hs s.size k 0 (by omega) (by omega) hk
  simpa using this
theorem among_l0 (N t : ByteArray) (L : List ByteArray) (hL : L.length ≤ 100) (hn : N.size = 3 * L.length) (hx : ∀ i (h : i < L.length), (N.extract (3 * i) (3 * i + 3)).toList = (lowerP L[i]).toList) (d : Nat) :
    ∀ (k i : Nat), i ≤ L.length → L.length - i = d → d < k → postbagref2_among.l0 k N (lowerP t) (i : Int) = some (placeP t (L.drop i) i + 1) := by
  induction d with
  | zero =>
    intro k i hi hd hk
    obtain ⟨k, rfl⟩ : ∃ m, k = m + 1 := ⟨k - 1, by omega⟩
    have e : i = L.length := by omega
    subst e
    simp only [postbagref2_among.l0]
    rw [w64 (3 * _) (by omega) (by omega), if_neg (by omega), List.drop_of_length_le (Nat.le_refl _)]
    rfl
  | succ d ih =>
    intro k i hi hd hk
    obtain ⟨k, rfl⟩ : ∃ m, k = m + 1 := ⟨k - 1, by omega⟩
    have hlt : i < L.length := by omega
    have hdr : L.drop i = L[i] :: L.drop (i + 1) := List.drop_eq_getElem_cons hlt
    simp only [postbagref2_among.l0]
    rw [w64 (3 * (i : Int)) (by omega) (by omega), w64 (3 * (i : Int) + 3) (by omega) (by omega), w64 ((i : Int) + 1) (by omega) (by omega)]
    rw [if_pos (by omega), if_pos (by omega), if_pos (by omega), if_pos (by omega)]
    rw [show (3 * (i : Int)).toNat = 3 * i from by omega, show (3 * (i : Int) + 3).toNat = 3 * i + 3 from by omega, hx i hlt, hdr]
    unfold placeP
    by_cases hc : (lowerP L[i]).toList = (lowerP t).toList
    · rw [if_pos hc, if_pos ((same_case _ _).1 hc)]
    · rw [if_neg hc, if_neg (fun h => hc ((same_case _ _).2 h))]
      have := ih k (i + 1) (by omega) (by omega) (by omega)
      rw [show (i : Int) + 1 = ((i + 1 : Nat) : Int) from by omega]
      exact this
def lowMonths : ByteArray := ⟨#[106, 97, 110, 102, 101, 98, 109, 97, 114, 97, 112, 114, 109, 97, 121, 106, 117, 110, 106, 117, 108, 97, 117, 103, 115, 101, 112, 111, 99, 116, 110, 111, 118, 100, 101, 99]⟩
theorem months_low : ∀ i (h : i < monthL.length), (lowMonths.extract (3 * i) (3 * i + 3)).toList = (lowerP monthL[i]).toList := by
  intro i h
  have h2 : i < 12 := h
  have : i = 0 ∨ i = 1 ∨ i = 2 ∨ i = 3 ∨ i = 4 ∨ i = 5 ∨ i = 6 ∨ i = 7 ∨ i = 8 ∨ i = 9 ∨ i = 10 ∨ i = 11 := by omega
  simp only [ByteArray.toList_eq]
  rcases this with rfl | rfl | rfl | rfl | rfl | rfl | rfl | rfl | rfl | rfl | rfl | rfl <;> rfl
theorem among_months (k : Nat) (t : ByteArray) (ht : t.size ≤ 140737488351232) (hk : t.size + 20 < k) : postbagref2_among.f k lowMonths t = some (placeP t monthL 0 + 1) := by
  unfold postbagref2_among.f
  rw [lower_f k t ht (by omega), Option.bind_some]
  exact among_l0 lowMonths t monthL (by decide) rfl months_low 12 k 0 (by omega) rfl (by omega)
end Go.Proofs.YtjlchnmpebdggaaDoor.Mo
end
section
namespace Go.Proofs.YtjlchnmpebdggaaDoor.Mo
open Go.RowKit Go.Proofs.YtjlchnmpebdggaaDoorW.PrintWords Go.Proofs.YtjlchnmpebdggaaDoorW.PrintLast Go.Proofs.YtjlchnmpebdggaaDoorW.PrintMore
attribute [local go_sem] max2_int min2_int max_two min_two max_three min_three max_four min_four   -- for this text's walks alone
set_option linter.unusedVariables false
set_option linter.unusedSimpArgs false
end Go.Proofs.YtjlchnmpebdggaaDoor.Mo
end
section
namespace Go.Proofs.YtjlchnmpebdggaaDoor.Mo
open Go.RowKit Go.Proofs.YtjlchnmpebdggaaDoorW.PrintWords
def toldP (y m d h mi s z : Int) (ok : Bool) : Int × Int × Int × Int × Int × Int × Int × Int :=
  if ok = true then (if isDayB y m d = true then (y, m, d, h, mi, s, z, 0) else (0, 0, 0, 0, 0, 0, 0, 21)) else (0, 0, 0, 0, 0, 0, 0, 20)
theorem read_f (y m d h mi s z : Int) (ok : Bool) : moment_read.f y m d h mi s z ok = some (toldP y m d h mi s z ok) := by
  unfold moment_read.f toldP
  rw [isDay_f, Option.bind_some]
  cases ok <;> cases isDayB y m d <;> rfl
theorem told_f (k : Nat) (hk : 1 ≤ k) (y m d h mi s z : Int) (ok : Bool) : postbagref2_told.f k y m d h mi s z ok = some (toldP y m d h mi s z ok) := by
  unfold postbagref2_told.f toldP
  rw [isDay_ref k hk, Option.bind_some]
  cases ok <;> cases isDayB y m d <;> rfl
theorem toldP_no (y m d h mi s z : Int) : toldP y m d h mi s z false = (0, 0, 0, 0, 0, 0, 0, 20) := rfl
end Go.Proofs.YtjlchnmpebdggaaDoor.Mo
end
section
namespace Go.Proofs.YtjlchnmpebdggaaDoor.Mo
open Go.RowKit Go.Proofs.YtjlchnmpebdggaaDoorW.PrintWords
set_option linter.unusedVariables false
end Go.Proofs.YtjlchnmpebdggaaDoor.Mo
end
section
namespace Go.Proofs.YtjlchnmpebdggaaDoor.Mo
open Go.RowKit Go.Proofs.YtjlchnmpebdggaaDoorW.PrintWords
def zonedP (s : ByteArray) : Int × Bool := if (zoneT s).2 = true then ((zoneT s).1, true) else (0, false)
theorem zoned_f (k : Nat) (hk : 40 ≤ k) (s : ByteArray) : postbagref2_zoned.f k s = some (zonedP s) := by
  obtain ⟨k, rfl⟩ : ∃ q, k = q + 2 := ⟨k - 2, by omega⟩
  unfold postbagref2_zoned.f zonedP zoneT
  by_cases h5 : s.size = 5
  · have e1 : (s.extract 1 3).size = 2 := by rw [ByteArray.size_extract]; omega
    have e2 : (s.extract 3 5).size = 2 := by rw [ByteArray.size_extract]; omega
    rw [if_pos (by omega), if_pos (by omega)]
    have go : (bt s 0 = 43 ∨ bt s 0 = 45) → postbagref2_zoned.j0 (k + 2) s false = some (if ((belowP (s.extract 1 3) 23).2 && (belowP (s.extract 3 5) 59).2) = true then ((if bt s 0 = 45 then -(60 * (belowP (s.extract 1 3) 23).1 + (belowP (s.extract 3 5) 59).1) else 60 * (belowP (s.extract 1 3) 23).1 + (belowP (s.extract 3 5) 59).1), true) else (0, false)) := by
      intro _
      simp only [postbagref2_zoned.j0]
      rw [if_neg (by decide), if_pos (by omega), if_pos (by omega), h5, count_f (k + 1) (by omega) _ (by omega), Option.bind_some, count_f (k + 1) (by omega) _ (by omega), Option.bind_some]
      unfold belowP
      rw [e1, e2]
      have r1 := digitsP_range (s.extract 1 3)
      have r2 := digitsP_range (s.extract 3 5)
      generalize digitsP (s.extract 1 3) = A at *
      generalize digitsP (s.extract 3 5) = B at *
      have w1 : wrap64 (wrap64 (-60 * A.1) - B.1) = -(60 * A.1 + B.1) := by rw [w64 (-60 * A.1) (by omega) (by omega), w64 _ (by omega) (by omega)]; omega
      have w2 : wrap64 (wrap64 (60 * A.1) + B.1) = 60 * A.1 + B.1 := by rw [w64 (60 * A.1) (by omega) (by omega), w64 _ (by omega) (by omega)]
      simp only [postbagref2_zoned.j1]
      rw [w1, w2]
      cases ha : A.2 with
      | false => rw [if_neg (by decide), if_pos trivial, if_neg (by simp)]
      | true =>
        rw [if_pos rfl]
        cases hb : B.2 with
        | false => rw [if_neg (by decide), if_pos trivial, if_neg (by simp)]
        | true =>
          rw [if_pos rfl]
          by_cases c1 : A.1 > 23
          · rw [if_pos c1, if_pos trivial, if_neg (by simp; omega)]
          · rw [if_neg c1]
            by_cases c2 : B.1 > 59
            · rw [if_pos (decide_eq_true c2), if_neg (by simp; omega)]
            · have hT : (true && (decide True && decide (A.1 ≤ 23)) && (true && (decide True && decide (B.1 ≤ 59)))) = true := by simp; omega
              rw [decide_eq_false c2, if_neg (by decide), if_pos (by omega), if_pos hT]
              by_cases h45 : bt s 0 = 45
              · rw [if_pos h45, if_pos h45]
              · rw [if_neg h45, if_neg h45]
    by_cases h43 : bt s 0 = 43
    · rw [if_pos h43, go (.inl h43)]
      rw [if_pos (show s.size = 5 ∧ (bt s 0 = 43 ∨ bt s 0 = 45) from ⟨h5, .inl h43⟩)]
    · rw [if_neg h43]
      by_cases h45 : bt s 0 = 45
      · rw [show (bt s 0 != 45) = false from by rw [bne_eq_false_iff_eq]; exact h45, go (.inr h45)]
        rw [if_pos (show s.size = 5 ∧ (bt s 0 = 43 ∨ bt s 0 = 45) from ⟨h5, .inr h45⟩)]
      · rw [show (bt s 0 != 45) = true from by rw [bne_iff_ne]; exact h45]
        simp only [postbagref2_zoned.j0]
        rw [if_pos trivial, if_neg (show ¬ (s.size = 5 ∧ (bt s 0 = 43 ∨ bt s 0 = 45)) from fun h => by rcases h.2 with h | h <;> contradiction)]
        rfl
  · rw [if_neg (by omega)]
    simp only [postbagref2_zoned.j0]
    rw [if_pos trivial, if_neg (show ¬ (s.size = 5 ∧ (bt s 0 = 43 ∨ bt s 0 = 45)) from fun h => h5 h.1)]
    rfl
end Go.Proofs.YtjlchnmpebdggaaDoor.Mo
end
section
-- PRINTED by a driver of print.py
namespace Go.Proofs.YtjlchnmpebdggaaDoor.Mo
open Go.RowKit Go.Proofs.YtjlchnmpebdggaaDoorW.PrintWords Go.Proofs.YtjlchnmpebdggaaDoorW.PrintLast Go.Proofs.YtjlchnmpebdggaaDoorW.PrintMore
attribute [local go_sem] max2_int min2_int max_two min_two max_three min_three max_four min_four   -- for this text's walks alone
set_option linter.unusedVariables false
set_option linter.unusedSimpArgs false
end Go.Proofs.YtjlchnmpebdggaaDoor.Mo
end
section
-- PRINTED by a driver of print.py
namespace Go.Proofs.YtjlchnmpebdggaaDoor.Mo
open Go.RowKit Go.Proofs.YtjlchnmpebdggaaDoorW.PrintWords Go.Proofs.YtjlchnmpebdggaaDoorW.PrintLast Go.Proofs.YtjlchnmpebdggaaDoorW.PrintMore
attribute [local go_sem] max2_int min2_int max_two min_two max_three min_three max_four min_four   -- for this text's walks alone
set_option linter.unusedVariables false
set_option linter.unusedSimpArgs false
attribute [local go_sem high] eqA23
end Go.Proofs.YtjlchnmpebdggaaDoor.Mo
end
section
-- PRINTED by a driver of print.py
namespace Go.Proofs.YtjlchnmpebdggaaDoor.Mo
open Go.RowKit Go.Proofs.YtjlchnmpebdggaaDoorW.PrintWords Go.Proofs.YtjlchnmpebdggaaDoorW.PrintLast Go.Proofs.YtjlchnmpebdggaaDoorW.PrintMore
attribute [local go_sem] max2_int min2_int max_two min_two max_three min_three max_four min_four   -- for this text's walks alone
set_option linter.unusedVariables false
set_option linter.unusedSimpArgs false
attribute [local go_sem high] eqA23
end Go.Proofs.YtjlchnmpebdggaaDoor.Mo
end
section
namespace Go.Proofs.YtjlchnmpebdggaaDoor.Mo
open Go.RowKit Go.Proofs.YtjlchnmpebdggaaDoorW.PrintWords
def zoneB (zz : Int) (sign : ByteArray) : ByteArray := sign ++ twoP (zz / 60) ++ twoP (zz % 60)
theorem zone_ref (k : Nat) (hk : 10 ≤ k) (z : Int) (h0 : -1439 ≤ z) (h1 : z ≤ 1439) : postbagref2_zone.f k z = some (if z < 0 then zoneB (-z) ⟨#[45]⟩ else zoneB z ⟨#[43]⟩) := by
  unfold postbagref2_zone.f zoneB
  have e1 : (⟨#[45]⟩ : ByteArray).size = 1 := rfl
  have e2 : (⟨#[43]⟩ : ByteArray).size = 1 := rfl
  by_cases hz : z < 0
  · rw [if_pos hz, if_pos hz, w64 (-z) (by omega) (by omega), Int.tdiv_eq_ediv_of_nonneg (by omega), Int.tmod_eq_emod_of_nonneg (by omega), w64 (-z / 60) (by omega) (by omega), text_two k hk (-z / 60) (by omega) (by omega), text_two k hk (-z % 60) (by omega) (by omega), Option.bind_some, Option.bind_some]
    have a1 := twoP_size (-z / 60)
    have a2 := twoP_size (-z % 60)
    rw [if_pos (by omega), if_pos (by rw [ByteArray.size_append]; omega)]
  · rw [if_neg hz, if_neg hz, Int.tdiv_eq_ediv_of_nonneg (by omega), Int.tmod_eq_emod_of_nonneg (by omega), w64 (z / 60) (by omega) (by omega), text_two k hk (z / 60) (by omega) (by omega), text_two k hk (z % 60) (by omega) (by omega), Option.bind_some, Option.bind_some]
    have a1 := twoP_size (z / 60)
    have a2 := twoP_size (z % 60)
    rw [if_pos (by omega), if_pos (by rw [ByteArray.size_append]; omega)]
theorem zoneB_size (zz : Int) (sign : ByteArray) : (zoneB zz sign).size = sign.size + 4 := by
  unfold zoneB
  rw [ByteArray.size_append, ByteArray.size_append, twoP_size, twoP_size]
theorem clock_ref (k : Nat) (hk : 10 ≤ k) (y m d h mi s z : Int) (ht : timeB h mi s z = true) : postbagref2_clock.f k y m d h mi s z = some (clockP h mi s z) := by
  obtain ⟨b1, b2, b3, b4, b5, b6, b7, b8⟩ := (time_iff _ _ _ _).1 ht
  have e1 : (⟨#[58]⟩ : ByteArray).size = 1 := rfl
  have e2 : (⟨#[32]⟩ : ByteArray).size = 1 := rfl
  have e3 : (⟨#[45]⟩ : ByteArray).size = 1 := rfl
  have e4 : (⟨#[43]⟩ : ByteArray).size = 1 := rfl
  have hq : (if z < 0 then zoneB (-z) ⟨#[45]⟩ else zoneB z ⟨#[43]⟩).size = 5 := by split <;> (rw [zoneB_size]; omega)
  have hc : clockP h mi s z = ((((((twoP h ++ (⟨#[58]⟩ : ByteArray)) ++ twoP mi) ++ (⟨#[58]⟩ : ByteArray)) ++ twoP s) ++ (⟨#[32]⟩ : ByteArray)) ++ (if z < 0 then zoneB (-z) ⟨#[45]⟩ else zoneB z ⟨#[43]⟩)) := by
    unfold clockP
    split <;> (unfold clockT zoneB; simp only [ByteArray.append_assoc])
  rw [hc]
  unfold postbagref2_clock.f
  rw [text_two k hk h b1 (by omega), text_two k hk mi b3 (by omega), text_two k hk s b5 (by omega), zone_ref k hk z b7 b8]
  have a1 := twoP_size h
  have a2 := twoP_size mi
  have a3 := twoP_size s
  generalize (if z < 0 then zoneB (-z) ⟨#[45]⟩ else zoneB z ⟨#[43]⟩) = q at *
  generalize twoP h = t1 at *
  generalize twoP mi = t2 at *
  generalize twoP s = t3 at *
  repeat first
    | rw [Option.bind_some]
    | rw [if_pos (by (try simp only [ByteArray.size_append]); omega)]
theorem may_ref (k : Nat) (hk : 1 ≤ k) (y m d h mi s z : Int) : postbagref2_may.f k y m d h mi s z = some (refuseP y m d h mi s z) := by
  unfold postbagref2_may.f refuseP
  rw [isDay_ref k hk, Option.bind_some, valid_ref k hk, Option.bind_some]
  cases isDayB y m d <;> cases validB y m d h mi s z <;> rfl
end Go.Proofs.YtjlchnmpebdggaaDoor.Mo
end
section
namespace Go.Proofs.YtjlchnmpebdggaaDoor.Mo
open Go.RowKit Go.Proofs.YtjlchnmpebdggaaDoorW.PrintWords
end Go.Proofs.YtjlchnmpebdggaaDoor.Mo
end
section
namespace Go.Proofs.YtjlchnmpebdggaaDoor.Mo
open Go.RowKit Go.Proofs.YtjlchnmpebdggaaDoorW.PrintWords
theorem next_end (s : ByteArray) (i : Nat) (hi : i ≤ s.size) (hd : s.data.toList.drop i = []) : nextP s i = (i, 0, ⟨#[]⟩) := by
  have hl := toList_len s
  have h1 : s.data.toList.length ≤ i := by
    have := congrArg List.length hd
    rw [List.length_drop, List.length_nil] at this
    omega
  have hbl : blankP s.data.toList i = i := by unfold blankP; rw [hd]; rfl
  unfold nextP
  simp only
  rw [hbl, if_pos (by omega)]
end Go.Proofs.YtjlchnmpebdggaaDoor.Mo
end
section
namespace Go.Proofs.YtjlchnmpebdggaaDoor.Mo
open Go.RowKit Go.Proofs.YtjlchnmpebdggaaDoorW.PrintWords
theorem w64b (n : Int) (h0 : -1000000000000000000 ≤ n) (h1 : n ≤ 1000000000000000000) : wrap64 n = n := IntWalk.wrap64_in _ ⟨by omega, by omega⟩
theorem letter_ref (c : UInt8) : postbagref2_isLetter.f (c.toNat : Int) = some (isLet c) := by
  unfold postbagref2_isLetter.f isLet
  by_cases h1 : (c.toNat : Int) ≥ 97
  · rw [if_pos h1]
    by_cases h2 : (c.toNat : Int) ≤ 122
    · rw [if_pos h2]; congr 1; simp; omega
    · rw [if_neg h2, if_pos (by omega)]; congr 1; rw [Bool.eq_iff_iff]; simp; omega
  · rw [if_neg h1]
    by_cases h2 : (c.toNat : Int) ≥ 65
    · rw [if_pos h2]; congr 1; rw [Bool.eq_iff_iff]; simp; omega
    · rw [if_neg h2]; congr 1; rw [Bool.eq_iff_iff]; simp; omega
theorem digit_ref (c : UInt8) : postbagref2_isDigit.f (c.toNat : Int) = some (isDig c) := by
  unfold postbagref2_isDigit.f isDig
  by_cases h1 : (c.toNat : Int) ≥ 48
  · rw [if_pos h1]; congr 1; rw [Bool.eq_iff_iff]; simp; omega
  · rw [if_neg h1]; congr 1; rw [Bool.eq_iff_iff]; simp; omega
theorem run_l0 (s : ByteArray) (hs : s.size ≤ 140737488351232) (b : Bool) (P : UInt8 → Bool) (hP : P = if b = true then isDig else isLet) (d : Nat) : ∀ (k i : Nat), i ≤ s.size → s.size - i = d → d < k →
    postbagref2_run.l0 k s (i : Int) b = some ((runP P s.data.toList i : Nat) : Int) := by
  have hl := toList_len s
  induction d with
  | zero =>
    intro k i hi hd hk
    obtain ⟨k, rfl⟩ : ∃ m, k = m + 1 := ⟨k - 1, by omega⟩
    simp only [postbagref2_run.l0]
    rw [if_neg (by omega), runP_end _ _ _ (by omega)]
  | succ d ih =>
    intro k i hi hd hk
    obtain ⟨k, rfl⟩ : ∃ m, k = m + 1 := ⟨k - 1, by omega⟩
    have hlt : i < s.data.toList.length := by omega
    have hb := bt_get s i hlt
    have hn := ih k (i + 1) (by omega) (by omega) (by omega)
    simp only [postbagref2_run.l0]
    rw [if_pos (by omega), hb, letter_ref, digit_ref, w64b _ (by omega) (by omega), show (i : Int) + 1 = ((i + 1 : Nat) : Int) from by omega]
    cases b with
    | true =>
      rw [if_pos rfl] at hP
      subst hP
      rw [if_pos rfl, if_pos (by omega), Option.bind_some]
      cases hp : isDig s.data.toList[i] with
      | true => rw [if_pos rfl, hn, runP_yes _ _ _ hlt hp]
      | false => rw [if_neg (by decide), runP_no _ _ _ hlt hp]
    | false =>
      rw [if_neg (by decide)] at hP
      subst hP
      rw [if_neg (by decide), if_pos (by omega), Option.bind_some]
      cases hp : isLet s.data.toList[i] with
      | true => rw [if_pos rfl, hn, runP_yes _ _ _ hlt hp]
      | false => rw [if_neg (by decide), runP_no _ _ _ hlt hp]
theorem run_dig (s : ByteArray) (hs : s.size ≤ 140737488351232) (k i : Nat) (hi : i ≤ s.size) (hk : s.size < k) : postbagref2_run.f k s (i : Int) true = some ((runP isDig s.data.toList i : Nat) : Int) :=
  run_l0 s hs true isDig rfl _ k i hi rfl (by omega)
theorem run_let (s : ByteArray) (hs : s.size ≤ 140737488351232) (k i : Nat) (hi : i ≤ s.size) (hk : s.size < k) : postbagref2_run.f k s (i : Int) false = some ((runP isLet s.data.toList i : Nat) : Int) :=
  run_l0 s hs false isLet rfl _ k i hi rfl (by omega)
theorem skip_step (k : Nat) (x0 : ByteArray) (x1 x5 : Int) : postbagref2_skip.l0 (k + 1) x0 x1 x5 = if x1 < (x0.size : Int) then (if 0 ≤ x1 then (if (bt x0 x1) = 40 then (postbagref2_skip.l0 k x0 (wrap64 (x1 + 1)) (wrap64 (x5 + 1))) else (if x5 > 0 then (postbagref2_skip.j1 k x0 x1 x5 (bt x0 x1) ((bt x0 x1) == 41)) else (postbagref2_skip.j1 k x0 x1 x5 (bt x0 x1) false))) else (none)) else (some (x0.size : Int)) := by rw [postbagref2_skip.l0]
theorem skip_step1 (k : Nat) (x0 : ByteArray) (x1 x5 x6 : Int) (x23 : Bool) : postbagref2_skip.j1 (k + 1) x0 x1 x5 x6 x23 = if x23 = true then (postbagref2_skip.l0 k x0 (wrap64 (x1 + 1)) (wrap64 (x5 - 1))) else (if x5 > 0 then (postbagref2_skip.j2 k x0 x1 x5 x6 (x6 == 92)) else (postbagref2_skip.j2 k x0 x1 x5 x6 false)) := by rw [postbagref2_skip.j1]
theorem skip_step2 (k : Nat) (x0 : ByteArray) (x1 x5 x6 : Int) (x31 : Bool) : postbagref2_skip.j2 (k + 1) x0 x1 x5 x6 x31 = if x31 = true then (postbagref2_skip.l0 k x0 (wrap64 ((wrap64 (x1 + 1)) + 1)) x5) else (if x5 = 0 then (if x6 = 32 then (postbagref2_skip.l0 k x0 (wrap64 (x1 + 1)) x5) else (if x6 = 9 then (postbagref2_skip.l0 k x0 (wrap64 (x1 + 1)) x5) else (if x6 = 13 then (postbagref2_skip.l0 k x0 (wrap64 (x1 + 1)) x5) else (if x6 = 10 then (postbagref2_skip.l0 k x0 (wrap64 (x1 + 1)) x5) else (some x1))))) else (postbagref2_skip.l0 k x0 (wrap64 (x1 + 1)) x5)) := by rw [postbagref2_skip.j2]
def skipP (l : List UInt8) (i d : Nat) : Nat := if i ≤ l.length then i + blanksL (l.drop i) d else l.length
theorem skip_l0 (s : ByteArray) (hs : s.size ≤ 140737488351232) : ∀ (n k i d : Nat), s.size - i ≤ n → d ≤ i → i ≤ s.size + 1 → 3 * n + 3 < k →
    postbagref2_skip.l0 k s (i : Int) (d : Int) = some ((skipP s.data.toList i d : Nat) : Int) := by
  have hl := toList_len s
  intro n
  induction n with
  | zero =>
    intro k i d hd hdi hi hk
    obtain ⟨k, rfl⟩ : ∃ m, k = m + 1 := ⟨k - 1, by omega⟩
    rw [skip_step, if_neg (by omega)]
    unfold skipP
    congr 2
    by_cases h : i ≤ s.data.toList.length
    · rw [if_pos h, List.drop_of_length_le (by omega)]
      have e : blanksL [] d = 0 := rfl
      rw [e]; omega
    · rw [if_neg h, hl]
  | succ n ih =>
    intro k i d hd hdi hi hk
    obtain ⟨k, rfl⟩ : ∃ m, k = m + 3 := ⟨k - 3, by omega⟩
    by_cases hlt : i < s.data.toList.length
    · have hb := bt_get s i hlt
      have hdr : s.data.toList.drop i = s.data.toList[i] :: s.data.toList.drop (i + 1) := List.drop_eq_getElem_cons hlt
      have nk := fun (j e : Nat) (h1 : s.size - j ≤ n) (h2 : e ≤ j) (h3 : j ≤ s.size + 1) (k' : Nat) (h4 : 3 * n + 3 < k') => ih k' j e h1 h2 h3 h4
      have W1 := Lib.hid (show wrap64 ((i : Int) + 1) = ((i + 1 : Nat) : Int) from by rw [w64b _ (by omega) (by omega)]; omega)
      have W2 := Lib.hid (show wrap64 (((i + 1 : Nat) : Int) + 1) = ((i + 2 : Nat) : Int) from by rw [w64b _ (by omega) (by omega)]; omega)
      have W3 := Lib.hid (show wrap64 ((d : Int) + 1) = ((d + 1 : Nat) : Int) from by rw [w64b _ (by omega) (by omega)]; omega)
      have hsk : skipP s.data.toList i d = i + blanksL (s.data.toList[i] :: s.data.toList.drop (i + 1)) d := by unfold skipP; rw [if_pos (by omega), hdr]
      have hs1 : ∀ e, skipP s.data.toList (i + 1) e = i + 1 + blanksL (s.data.toList.drop (i + 1)) e := fun e => by unfold skipP; rw [if_pos (by omega)]
      rw [hsk]
      rw [skip_step, if_pos (by omega), if_pos (by omega), hb, W1.out, W3.out]
      generalize hc : s.data.toList[i] = c at *
      unfold blanksL
      by_cases c40 : c.toNat = 40
      · rw [if_pos (by omega), if_pos c40, nk (i + 1) (d + 1) (by omega) (by omega) (by omega) _ (by omega), hs1]
        congr 2
        omega
      · rw [if_neg (by omega), if_neg c40]
        have W5 := Lib.hid (show 0 < d → wrap64 ((d : Int) - 1) = ((d - 1 : Nat) : Int) from fun h => by rw [w64b _ (by omega) (by omega)]; omega)
        have q1 : (if (d : Int) > 0 then postbagref2_skip.j1 (k + 2) s (i : Int) (d : Int) (c.toNat : Int) ((c.toNat : Int) == 41) else postbagref2_skip.j1 (k + 2) s (i : Int) (d : Int) (c.toNat : Int) false) = postbagref2_skip.j1 (k + 2) s (i : Int) (d : Int) (c.toNat : Int) (decide (0 < d) && decide (c.toNat = 41)) := by
          by_cases hd0 : 0 < d
          · rw [if_pos (by omega), decide_eq_true hd0, Bool.true_and]
            congr 1
            rw [Bool.eq_iff_iff]; simp; omega
          · rw [if_neg (by omega), decide_eq_false hd0, Bool.false_and]
        rw [q1, skip_step1, W1.out]
        by_cases c41 : 0 < d ∧ c.toNat = 41
        · rw [if_pos (by simp [c41]), if_pos c41, W5.out c41.1, nk (i + 1) (d - 1) (by omega) (by omega) (by omega) _ (by omega), hs1]
          congr 2
          omega
        · rw [if_neg (by simpa using c41), if_neg c41]
          have q2 : (if (d : Int) > 0 then postbagref2_skip.j2 (k + 1) s (i : Int) (d : Int) (c.toNat : Int) ((c.toNat : Int) == 92) else postbagref2_skip.j2 (k + 1) s (i : Int) (d : Int) (c.toNat : Int) false) = postbagref2_skip.j2 (k + 1) s (i : Int) (d : Int) (c.toNat : Int) (decide (0 < d) && decide (c.toNat = 92)) := by
            by_cases hd0 : 0 < d
            · rw [if_pos (by omega), decide_eq_true hd0, Bool.true_and]
              congr 1
              rw [Bool.eq_iff_iff]; simp; omega
            · rw [if_neg (by omega), decide_eq_false hd0, Bool.false_and]
          rw [q2, skip_step2, W1.out, W2.out]
          by_cases c92 : 0 < d ∧ c.toNat = 92
          · rw [if_pos (by simp [c92]), if_pos c92, nk (i + 2) d (by omega) (by omega) (by omega) _ (by omega)]
            congr 2
            unfold skipP
            by_cases h2 : i + 2 ≤ s.data.toList.length
            · have hdr2 : s.data.toList.drop (i + 1) = s.data.toList[i + 1] :: s.data.toList.drop (i + 2) := List.drop_eq_getElem_cons (by omega)
              rw [if_pos h2, hdr2]
              simp only
              omega
            · rw [if_neg h2, List.drop_of_length_le (by omega)]
              simp only
              omega
          · rw [if_neg (by simpa using c92), if_neg c92, nk (i + 1) d (by omega) (by omega) (by omega) _ (by omega), hs1]
            by_cases hd0 : 0 < d
            · rw [if_neg (by omega), if_pos (.inl hd0)]
              congr 2
              omega
            · rw [if_pos (by omega)]
              have hbl : isBlank c = true ↔ c.toNat = 32 ∨ c.toNat = 9 ∨ c.toNat = 13 ∨ c.toNat = 10 := by unfold isBlank; simp
              by_cases hb1 : isBlank c = true
              · have hq := hbl.1 hb1
                rw [if_pos (show 0 < d ∨ isBlank c = true from .inr hb1)]
                have e : some ((i + 1 + blanksL (s.data.toList.drop (i + 1)) d : Nat) : Int) = some ((i + (1 + blanksL (s.data.toList.drop (i + 1)) d) : Nat) : Int) := by congr 2; omega
                rw [e]
                by_cases x1 : (c.toNat : Int) = 32
                · rw [if_pos x1]
                · rw [if_neg x1]
                  by_cases x2 : (c.toNat : Int) = 9
                  · rw [if_pos x2]
                  · rw [if_neg x2]
                    by_cases x3 : (c.toNat : Int) = 13
                    · rw [if_pos x3]
                    · rw [if_neg x3, if_pos (by omega)]
              · have hq : ¬ (c.toNat = 32 ∨ c.toNat = 9 ∨ c.toNat = 13 ∨ c.toNat = 10) := fun h => hb1 (hbl.2 h)
                rw [if_neg (by omega), if_neg (by omega), if_neg (by omega), if_neg (by omega), if_neg (show ¬ (0 < d ∨ isBlank c = true) from fun h => h.elim hd0 hb1)]
                rfl
    · rw [skip_step, if_neg (by omega)]
      unfold skipP
      congr 2
      by_cases h : i ≤ s.data.toList.length
      · rw [if_pos h, List.drop_of_length_le (by omega)]
        have e : blanksL [] d = 0 := rfl
        rw [e]; omega
      · rw [if_neg h, hl]
theorem skip_f (s : ByteArray) (hs : s.size ≤ 140737488351232) (k i : Nat) (hi : i ≤ s.size) (hk : 3 * s.size + 3 < k) : postbagref2_skip.f k s (i : Int) = some ((blankP s.data.toList i : Nat) : Int) := by
  have hl := toList_len s
  have h := skip_l0 s hs s.size k i 0 (by omega) (by omega) (by omega) hk
  unfold postbagref2_skip.f
  rw [show (0 : Int) = ((0 : Nat) : Int) from rfl, h]
  unfold skipP blankP
  rw [if_pos (by omega)]
def kindB (k : Int) : Int := if k = 1 then 97 else if k = 2 then 100 else if k = 3 then 115 else if k = 4 then 44 else 58
def pcsP (s : ByteArray) : Nat → Nat → Option (List S95)
  | 0, _ => none
  | n + 1, i =>
    if (nextP s i).2.1 = 0 then some [] else if (nextP s i).2.1 = 6 then none
    else (pcsP s n (nextP s i).1).map fun l => (⟨kindB (nextP s i).2.1, (nextP s i).2.2⟩ : S95) :: l
theorem next_more (s : ByteArray) (i : Nat) (hi : i ≤ s.size) (h : (nextP s i).2.1 ≠ 0) : i < (nextP s i).1 := by
  have hl := toList_len s
  have h1 := blankP_le s.data.toList i (by omega)
  unfold nextP at h ⊢
  simp only at h ⊢
  by_cases c : blankP s.data.toList i = s.size
  · rw [if_pos c] at h
    exact absurd rfl h
  · rw [if_neg c]
    have := pieceAt_le s.data.toList (blankP s.data.toList i) (by omega)
    simp only
    omega
end Go.Proofs.YtjlchnmpebdggaaDoor.Mo
end
section
namespace Go.Proofs.YtjlchnmpebdggaaDoor.Mo
open Go.RowKit Go.Proofs.YtjlchnmpebdggaaDoorW.PrintWords
def qAt (s : ByteArray) : Nat → Nat → St
  | 0, i => nextP s i
  | j + 1, i => qAt s j (nextP s i).1
theorem q_succ (s : ByteArray) : ∀ (j i : Nat), qAt s (j + 1) i = nextP s (qAt s j i).1
  | 0, _ => rfl
  | j + 1, i => by
    show qAt s (j + 1) (nextP s i).1 = nextP s (qAt s j (nextP s i).1).1
    exact q_succ s j _
theorem kind_range (s : ByteArray) (i : Nat) : (nextP s i).2.1 = 0 ∨ (nextP s i).2.1 = 1 ∨ (nextP s i).2.1 = 2 ∨ (nextP s i).2.1 = 3 ∨ (nextP s i).2.1 = 4 ∨ (nextP s i).2.1 = 5 ∨ (nextP s i).2.1 = 6 := by
  have hp : ∀ l f, (pieceAt l f).2 = 1 ∨ (pieceAt l f).2 = 2 ∨ (pieceAt l f).2 = 3 ∨ (pieceAt l f).2 = 4 ∨ (pieceAt l f).2 = 5 ∨ (pieceAt l f).2 = 6 := by
    intro l f
    unfold pieceAt
    simp only
    repeat' split
    all_goals simp
  unfold nextP
  simp only
  split
  · exact .inl rfl
  · exact .inr (hp _ _)
theorem end_stays (s : ByteArray) (i : Nat) (h : (nextP s i).2.1 = 0) : nextP s i = (s.size, 0, ⟨#[]⟩) ∧ nextP s s.size = (s.size, 0, ⟨#[]⟩) := by
  have hl := toList_len s
  constructor
  · unfold nextP at h ⊢
    simp only at h ⊢
    by_cases c : blankP s.data.toList i = s.size
    · rw [if_pos c, c]
    · rw [if_neg c] at h
      exfalso
      revert h
      unfold pieceAt
      simp only
      repeat' split
      all_goals simp
  · exact next_end s s.size (Nat.le_refl _) (List.drop_of_length_le (by omega))
theorem pcs_get (s : ByteArray) : ∀ (n i : Nat) (l : List S95), i ≤ s.size → pcsP s n i = some l →
    (∀ j, j < l.length → ((qAt s j i).2.1 = 1 ∨ (qAt s j i).2.1 = 2 ∨ (qAt s j i).2.1 = 3 ∨ (qAt s j i).2.1 = 4 ∨ (qAt s j i).2.1 = 5) ∧ l[j]? = some ⟨kindB (qAt s j i).2.1, (qAt s j i).2.2⟩) ∧ (∀ j, l.length ≤ j → (qAt s j i).2.1 = 0) := by
  intro n
  induction n with
  | zero => intro i l _ h; exact absurd h (by simp [pcsP])
  | succ n ih =>
    intro i l hi h
    simp only [pcsP] at h
    by_cases c0 : (nextP s i).2.1 = 0
    · rw [if_pos c0] at h
      obtain rfl := Option.some.inj h
      refine ⟨fun j hj => absurd hj (by simp), fun j _ => ?_⟩
      obtain ⟨e1, e2⟩ := end_stays s i c0
      have hq : ∀ j, qAt s j i = (s.size, 0, ⟨#[]⟩) := by
        intro j
        induction j with
        | zero => exact e1
        | succ j ihj => rw [q_succ, ihj]; exact e2
      rw [hq j]
    · rw [if_neg c0] at h
      by_cases c6 : (nextP s i).2.1 = 6
      · rw [if_pos c6] at h; exact absurd h (by simp)
      · rw [if_neg c6] at h
        cases hp : pcsP s n (nextP s i).1 with
        | none => rw [hp] at h; exact absurd h (by simp)
        | some l' =>
          rw [hp] at h
          obtain rfl : (⟨kindB (nextP s i).2.1, (nextP s i).2.2⟩ : S95) :: l' = l := Option.some.inj h
          obtain ⟨h1, h2⟩ := ih _ l' (nextP_le s i hi) hp
          constructor
          · intro j hj
            cases j with
            | zero =>
              refine ⟨?_, rfl⟩
              have := kind_range s i
              show (nextP s i).2.1 = 1 ∨ _
              rcases this with h | h | h | h | h | h | h
              · exact absurd h c0
              · exact .inl h
              · exact .inr (.inl h)
              · exact .inr (.inr (.inl h))
              · exact .inr (.inr (.inr (.inl h)))
              · exact .inr (.inr (.inr (.inr h)))
              · exact absurd h c6
            | succ j => exact h1 j (by rw [List.length_cons] at hj; omega)
          · intro j hj
            cases j with
            | zero => rw [List.length_cons] at hj; omega
            | succ j => exact h2 j (by rw [List.length_cons] at hj; omega)
theorem pcs_none (s : ByteArray) : ∀ (n i : Nat), i ≤ s.size → s.size - i < n → pcsP s n i = none → ∃ j, (qAt s j i).2.1 = 6 ∧ ∀ t, t ≤ j → (qAt s t i).2.1 ≠ 0 := by
  intro n
  induction n with
  | zero => intro i _ h _; omega
  | succ n ih =>
    intro i hi hn h
    simp only [pcsP] at h
    by_cases c0 : (nextP s i).2.1 = 0
    · rw [if_pos c0] at h; exact absurd h (by simp)
    · rw [if_neg c0] at h
      by_cases c6 : (nextP s i).2.1 = 6
      · exact ⟨0, c6, fun t ht => by
          obtain rfl : t = 0 := by omega
          exact c0⟩
      · rw [if_neg c6] at h
        have hm := next_more s i hi c0
        have hl := nextP_le s i hi
        cases hp : pcsP s n (nextP s i).1 with
        | some l' => rw [hp] at h; exact absurd h (by simp)
        | none =>
          obtain ⟨j, hj, ht⟩ := ih _ hl (by omega) hp
          refine ⟨j + 1, hj, fun t h2 => ?_⟩
          cases t with
          | zero => exact c0
          | succ t => exact ht t (by omega)
end Go.Proofs.YtjlchnmpebdggaaDoor.Mo
end
section
namespace Go.Proofs.YtjlchnmpebdggaaDoor.Mo
open Go.RowKit Go.Proofs.YtjlchnmpebdggaaDoorW.PrintWords
theorem pieces_step (k : Nat) (x0 : ByteArray) (x4 : List S95) (x5 : Int) : postbagref2_pieces.l0 (k + 1) x0 x4 x5 = if x5 < (x0.size : Int) then (if 0 ≤ x5 then ((postbagref2_isLetter.f (bt x0 x5)).bind fun t239 => (if t239 = true then ((postbagref2_run.f k x0 x5 false).bind fun t240 => (if x5 ≤ t240 then (if t240 ≤ (x0.size : Int) then (if x4.length < 5864062014805 then ((postbagref2_skip.f k x0 t240).bind fun t244 => (postbagref2_pieces.l0 k x0 (x4 ++ [(⟨97, x0.extract (x5 : Int).toNat (t240 : Int).toNat⟩ : S95)]) t244)) else (none)) else (none)) else (none))) else ((postbagref2_isDigit.f (bt x0 x5)).bind fun t245 => (if t245 = true then ((postbagref2_run.f k x0 x5 true).bind fun t246 => (if x5 ≤ t246 then (if t246 ≤ (x0.size : Int) then (if x4.length < 5864062014805 then ((postbagref2_skip.f k x0 t246).bind fun t250 => (postbagref2_pieces.l0 k x0 (x4 ++ [(⟨100, x0.extract (x5 : Int).toNat (t246 : Int).toNat⟩ : S95)]) t250)) else (none)) else (none)) else (none))) else (if (bt x0 x5) = 43 then (postbagref2_pieces.j1 k x0 x4 x5 (bt x0 x5) (wrap64 (x5 + 1)) true (bt x0 x5) (⟨#[]⟩ : ByteArray)) else (postbagref2_pieces.j1 k x0 x4 x5 (bt x0 x5) (wrap64 (x5 + 1)) ((bt x0 x5) == 45) (bt x0 x5) (⟨#[]⟩ : ByteArray))))))) else (none)) else (some (x4, true)) := by rw [postbagref2_pieces.l0]
theorem pieces_step1 (k : Nat) (x0 : ByteArray) (x4 : List S95) (x5 x6 x8 : Int) (x36 : Bool) (y : Int) (z : ByteArray) : postbagref2_pieces.j1 (k + 1) x0 x4 x5 x6 x8 x36 y z = if x36 = true then ((postbagref2_run.f k x0 (wrap64 (x5 + 1)) true).bind fun t251 => (if t251 = (wrap64 (x5 + 1)) then (some (([] : List (S95)), false)) else (if 0 ≤ x5 then (if x5 ≤ t251 then (if t251 ≤ (x0.size : Int) then (if x4.length < 5864062014805 then ((postbagref2_skip.f k x0 t251).bind fun t255 => (postbagref2_pieces.l0 k x0 (x4 ++ [(⟨115, x0.extract (x5 : Int).toNat (t251 : Int).toNat⟩ : S95)]) t255)) else (none)) else (none)) else (none)) else (none)))) else (if x6 = 44 then (if 0 ≤ x5 then (if x5 ≤ x8 then (if x8 ≤ (x0.size : Int) then (if x4.length < 5864062014805 then ((postbagref2_skip.f k x0 x8).bind fun t259 => (postbagref2_pieces.l0 k x0 (x4 ++ [(⟨y, x0.extract (x5 : Int).toNat (x8 : Int).toNat⟩ : S95)]) t259)) else (none)) else (none)) else (none)) else (none)) else (if x6 = 58 then (if 0 ≤ x5 then (if x5 ≤ x8 then (if x8 ≤ (x0.size : Int) then (if x4.length < 5864062014805 then ((postbagref2_skip.f k x0 x8).bind fun t263 => (postbagref2_pieces.l0 k x0 (x4 ++ [(⟨y, x0.extract (x5 : Int).toNat (x8 : Int).toNat⟩ : S95)]) t263)) else (none)) else (none)) else (none)) else (none)) else (some (([] : List (S95)), false)))) := by rw [postbagref2_pieces.j1]
def pcsA (acc : List S95) : Option (List S95) → List S95 × Bool
  | some r => (acc ++ r, true)
  | none => ([], false)
theorem pcsA_cons (acc : List S95) (x : S95) (o : Option (List S95)) : pcsA acc (o.map fun l => x :: l) = pcsA (acc ++ [x]) o := by
  cases o with
  | none => rfl
  | some r => simp [pcsA]
theorem pieces_go (s : ByteArray) (hs : s.size ≤ 1048576) (n : Nat) (k i' f t : Nat) (K : Int) (x : S95) (acc : List S95) (_hi : i' ≤ s.size) (hf : f < t) (ht : t ≤ s.size) (hk : 3 * s.size + 3 < k) (hacc : acc.length ≤ i') (hif : i' ≤ f)
    (hq : nextP s i' = (t, K, s.extract f t)) (hK : K ≠ 0 ∧ K ≠ 6) (hx : x = ⟨kindB K, s.extract f t⟩)
    (ih : ∀ acc', acc'.length ≤ t → postbagref2_pieces.l0 k s acc' ((blankP s.data.toList t : Nat) : Int) = some (pcsA acc' (pcsP s n t))) :
    (if (f : Int) ≤ (t : Int) then (if (t : Int) ≤ (s.size : Int) then (if acc.length < 5864062014805 then ((postbagref2_skip.f k s (t : Int)).bind fun t244 => (postbagref2_pieces.l0 k s (acc ++ [x]) t244)) else (none)) else (none)) else (none)) = some (pcsA acc (pcsP s (n + 1) i')) := by
  rw [if_pos (by omega), if_pos (by omega), if_pos (by omega), skip_f s (by omega) k t ht hk, Option.bind_some, ih _ (by rw [List.length_append, List.length_singleton]; omega)]
  have hn : pcsP s (n + 1) i' = (pcsP s n t).map fun l => x :: l := by
    simp only [pcsP]
    rw [hq]
    rw [if_neg hK.1, if_neg hK.2, hx]
  rw [hn, pcsA_cons]
theorem pieces_no (s : ByteArray) (n i' : Nat) (acc : List S95) (h : (nextP s i').2.1 = 6) : pcsA acc (pcsP s (n + 1) i') = ([], false) := by
  simp only [pcsP]
  rw [if_neg (by rw [h]; decide), if_pos h]
  rfl
theorem pieces_l0 (s : ByteArray) (hs : s.size ≤ 1048576) : ∀ (n i' : Nat), i' ≤ s.size → s.size - i' < n → ∀ (k : Nat) (acc : List S95), 2 * n + 3 * s.size + 10 ≤ k → acc.length ≤ i' →
    postbagref2_pieces.l0 k s acc ((blankP s.data.toList i' : Nat) : Int) = some (pcsA acc (pcsP s n i')) := by
  have hl := toList_len s
  intro n
  induction n with
  | zero => intro i' _ h; omega
  | succ n ih =>
    intro i' hi hd k acc hk hacc
    obtain ⟨k, rfl⟩ : ∃ m, k = m + 2 := ⟨k - 2, by omega⟩
    obtain ⟨hb1, hb2⟩ := blankP_le s.data.toList i' (by omega)
    have hnx : nextP s i' = if blankP s.data.toList i' = s.size then (blankP s.data.toList i', 0, ⟨#[]⟩) else ((pieceAt s.data.toList (blankP s.data.toList i')).1, (pieceAt s.data.toList (blankP s.data.toList i')).2, s.extract (blankP s.data.toList i') (pieceAt s.data.toList (blankP s.data.toList i')).1) := rfl
    generalize hF : blankP s.data.toList i' = f at *
    rw [pieces_step]
    by_cases hend : f = s.size
    · rw [if_pos hend] at hnx
      rw [if_neg (by omega)]
      simp only [pcsP]
      rw [hnx, if_pos rfl]
      simp [pcsA]
    · rw [if_neg hend] at hnx
      have hlt : f < s.data.toList.length := by omega
      have hb := bt_get s f hlt
      have hgd : s.data.toList.getD f 0 = s.data.toList[f] := by rw [List.getD_eq_getElem?_getD, List.getElem?_eq_getElem hlt]; rfl
      have hpa : pieceAt s.data.toList f = if isLet s.data.toList[f] = true then (runP isLet s.data.toList (f + 1), 1) else if isDig s.data.toList[f] = true then (runP isDig s.data.toList (f + 1), 2) else if s.data.toList[f].toNat = 43 ∨ s.data.toList[f].toNat = 45 then (runP isDig s.data.toList (f + 1), if f + 1 < runP isDig s.data.toList (f + 1) then 3 else 6) else if s.data.toList[f].toNat = 44 then (f + 1, 4) else if s.data.toList[f].toNat = 58 then (f + 1, 5) else (f + 1, 6) := by
        unfold pieceAt
        simp only
        rw [hgd]
      have W1 := Lib.hid (show wrap64 ((f : Int) + 1) = ((f + 1 : Nat) : Int) from by rw [w64b _ (by omega) (by omega)]; omega)
      have rl := runP_le isLet s.data.toList (f + 1) (by omega)
      have rd := runP_le isDig s.data.toList (f + 1) (by omega)
      rw [if_pos (by omega), if_pos (by omega), hb, letter_ref, digit_ref, W1.out, Option.bind_some]
      generalize hc : s.data.toList[f] = c at *
      by_cases c1 : isLet c = true
      · rw [if_pos c1] at hpa
        rw [hpa] at hnx
        rw [if_pos c1, run_let s (by omega) (k + 1) f (by omega) (by omega), runP_yes _ _ _ hlt (by rw [hc]; exact c1), Option.bind_some]
        exact pieces_go s hs n (k + 1) i' f _ 1 _ acc hi (by omega) (by omega) (by omega) hacc hb2 hnx ⟨by decide, by decide⟩ (by simp only [Int.toNat_natCast]; rfl) (fun acc' h' => ih _ (by omega) (by omega) (k + 1) acc' (by omega) h')
      · rw [if_neg c1] at hpa
        rw [if_neg c1, Option.bind_some]
        by_cases c2 : isDig c = true
        · rw [if_pos c2] at hpa
          rw [hpa] at hnx
          rw [if_pos c2, run_dig s (by omega) (k + 1) f (by omega) (by omega), runP_yes _ _ _ hlt (by rw [hc]; exact c2), Option.bind_some]
          exact pieces_go s hs n (k + 1) i' f _ 2 _ acc hi (by omega) (by omega) (by omega) hacc hb2 hnx ⟨by decide, by decide⟩ (by simp only [Int.toNat_natCast]; rfl) (fun acc' h' => ih _ (by omega) (by omega) (k + 1) acc' (by omega) h')
        · rw [if_neg c2] at hpa
          rw [if_neg c2]
          have hj : (if (c.toNat : Int) = 43 then postbagref2_pieces.j1 (k + 1) s acc (f : Int) (c.toNat : Int) ((f + 1 : Nat) : Int) true (c.toNat : Int) (⟨#[]⟩ : ByteArray) else postbagref2_pieces.j1 (k + 1) s acc (f : Int) (c.toNat : Int) ((f + 1 : Nat) : Int) ((c.toNat : Int) == 45) (c.toNat : Int) (⟨#[]⟩ : ByteArray)) = postbagref2_pieces.j1 (k + 1) s acc (f : Int) (c.toNat : Int) ((f + 1 : Nat) : Int) (decide (c.toNat = 43 ∨ c.toNat = 45)) (c.toNat : Int) (⟨#[]⟩ : ByteArray) := by
            by_cases h43 : c.toNat = 43
            · rw [if_pos (by omega), decide_eq_true (.inl h43)]
            · rw [if_neg (by omega)]
              congr 1
              rw [Bool.eq_iff_iff]; simp; omega
          rw [hj, pieces_step1, W1.out]
          by_cases c3 : c.toNat = 43 ∨ c.toNat = 45
          · rw [if_pos c3] at hpa
            rw [hpa] at hnx
            rw [if_pos (decide_eq_true c3), run_dig s (by omega) k (f + 1) (by omega) (by omega), Option.bind_some]
            by_cases c4 : f + 1 < runP isDig s.data.toList (f + 1)
            · rw [if_pos c4] at hnx
              rw [if_neg (by omega), if_pos (by omega)]
              exact pieces_go s hs n k i' f _ 3 _ acc hi (by omega) (by omega) (by omega) hacc hb2 hnx ⟨by decide, by decide⟩ (by simp only [Int.toNat_natCast]; rfl) (fun acc' h' => ih _ (by omega) (by omega) k acc' (by omega) h')
            · rw [if_neg c4] at hnx
              rw [if_pos (by omega), pieces_no s n i' acc (by rw [hnx])]
          · rw [if_neg c3] at hpa
            rw [if_neg (by rw [decide_eq_false c3]; decide)]
            by_cases c5 : c.toNat = 44
            · rw [if_pos c5] at hpa
              rw [hpa] at hnx
              rw [if_pos (by omega), if_pos (by omega)]
              exact pieces_go s hs n k i' f _ 4 _ acc hi (by omega) (by omega) (by omega) hacc hb2 hnx ⟨by decide, by decide⟩ (by simp only [Int.toNat_natCast]; rw [c5]; rfl) (fun acc' h' => ih _ (by omega) (by omega) k acc' (by omega) h')
            · rw [if_neg c5] at hpa
              rw [if_neg (by omega)]
              by_cases c6 : c.toNat = 58
              · rw [if_pos c6] at hpa
                rw [hpa] at hnx
                rw [if_pos (by omega), if_pos (by omega)]
                exact pieces_go s hs n k i' f _ 5 _ acc hi (by omega) (by omega) (by omega) hacc hb2 hnx ⟨by decide, by decide⟩ (by simp only [Int.toNat_natCast]; rw [c6]; rfl) (fun acc' h' => ih _ (by omega) (by omega) k acc' (by omega) h')
              · rw [if_neg c6] at hpa
                rw [hpa] at hnx
                rw [if_neg (by omega), pieces_no s n i' acc (by rw [hnx])]
theorem pieces_f (s : ByteArray) (hs : s.size ≤ 1048576) (k : Nat) (hk : 5 * s.size + 20 ≤ k) : postbagref2_pieces.f k s = some (pcsA [] (pcsP s (s.size + 1) 0)) := by
  unfold postbagref2_pieces.f
  have h := skip_f s (by omega) k 0 (by omega) (by omega)
  rw [show ((0 : Nat) : Int) = 0 from rfl] at h
  rw [h, Option.bind_some]
  exact pieces_l0 s hs (s.size + 1) 0 (by omega) (by omega) k [] (by omega) (by simp)
end Go.Proofs.YtjlchnmpebdggaaDoor.Mo
end
section
-- PRINTED by a driver of print.py
namespace Go.Proofs.YtjlchnmpebdggaaDoor.Mo
open Go.RowKit Go.Proofs.YtjlchnmpebdggaaDoorW.PrintWords Go.Proofs.YtjlchnmpebdggaaDoorW.PrintLast Go.Proofs.YtjlchnmpebdggaaDoorW.PrintMore
attribute [local go_sem] max2_int min2_int max_two min_two max_three min_three max_four min_four   -- for this text's walks alone
set_option linter.unusedVariables false
set_option linter.unusedSimpArgs false
end Go.Proofs.YtjlchnmpebdggaaDoor.Mo
end
section
-- PRINTED by a driver of print.py
namespace Go.Proofs.YtjlchnmpebdggaaDoor.Mo
open Go.RowKit Go.Proofs.YtjlchnmpebdggaaDoorW.PrintWords Go.Proofs.YtjlchnmpebdggaaDoorW.PrintLast Go.Proofs.YtjlchnmpebdggaaDoorW.PrintMore
attribute [local go_sem] max2_int min2_int max_two min_two max_three min_three max_four min_four   -- for this text's walks alone
set_option linter.unusedVariables false
set_option linter.unusedSimpArgs false
end Go.Proofs.YtjlchnmpebdggaaDoor.Mo
end
section
-- PRINTED by a driver of print.py
namespace Go.Proofs.YtjlchnmpebdggaaDoor.Mo
open Go.RowKit Go.Proofs.YtjlchnmpebdggaaDoorW.PrintWords Go.Proofs.YtjlchnmpebdggaaDoorW.PrintLast Go.Proofs.YtjlchnmpebdggaaDoorW.PrintMore
attribute [local go_sem] max2_int min2_int max_two min_two max_three min_three max_four min_four   -- for this text's walks alone
set_option linter.unusedVariables false
set_option linter.unusedSimpArgs false
attribute [local go_sem high] eqA23
end Go.Proofs.YtjlchnmpebdggaaDoor.Mo
end
section
-- PRINTED by a driver of print.py
namespace Go.Proofs.YtjlchnmpebdggaaDoor.Mo
open Go.RowKit Go.Proofs.YtjlchnmpebdggaaDoorW.PrintWords Go.Proofs.YtjlchnmpebdggaaDoorW.PrintLast Go.Proofs.YtjlchnmpebdggaaDoorW.PrintMore
attribute [local go_sem] max2_int min2_int max_two min_two max_three min_three max_four min_four   -- for this text's walks alone
set_option linter.unusedVariables false
set_option linter.unusedSimpArgs false
end Go.Proofs.YtjlchnmpebdggaaDoor.Mo
end
section
namespace Go.Proofs.YtjlchnmpebdggaaDoor.Mo
open Go.RowKit Go.Proofs.YtjlchnmpebdggaaDoorW.PrintWords
end Go.Proofs.YtjlchnmpebdggaaDoor.Mo
end
section
-- PRINTED by a driver of print.py
namespace Go.Proofs.YtjlchnmpebdggaaDoor.Mo
open Go.RowKit Go.Proofs.YtjlchnmpebdggaaDoorW.PrintWords Go.Proofs.YtjlchnmpebdggaaDoorW.PrintLast Go.Proofs.YtjlchnmpebdggaaDoorW.PrintMore
attribute [local go_sem] max2_int min2_int max_two min_two max_three min_three max_four min_four   -- for this text's walks alone
set_option linter.unusedVariables false
set_option linter.unusedSimpArgs false
attribute [local go_sem high] eqA23
end Go.Proofs.YtjlchnmpebdggaaDoor.Mo
end
section
namespace Go.Proofs.YtjlchnmpebdggaaDoor.Mo
open Go.RowKit Go.Proofs.YtjlchnmpebdggaaDoorW.PrintWords
end Go.Proofs.YtjlchnmpebdggaaDoor.Mo
end
section
namespace Go.Proofs.YtjlchnmpebdggaaDoor.Mo
open Go.RowKit Go.Proofs.YtjlchnmpebdggaaDoorW.PrintWords
theorem short_true {most : Int} {q : St} (h : (shortP most q).2 = true) : 0 ≤ (shortP most q).1 ∧ (shortP most q).1 ≤ most := by
  have r := digitsP_range q.2.2
  unfold shortP at h ⊢
  simp only [Bool.and_eq_true, decide_eq_true_eq] at h
  exact ⟨r.1, h.2.2.2⟩
end Go.Proofs.YtjlchnmpebdggaaDoor.Mo
end
section
namespace Go.Proofs.YtjlchnmpebdggaaDoor.Mo
open Go.RowKit Go.Proofs.YtjlchnmpebdggaaDoorW.PrintWords
def Kx (s : ByteArray) (j : Nat) : Int := (qAt s j 0).2.1
def Tx (s : ByteArray) (j : Nat) : ByteArray := (qAt s j 0).2.2
structure Lst (s : ByteArray) (l : List S95) : Prop where
  get : ∀ j, j < l.length → (Kx s j = 1 ∨ Kx s j = 2 ∨ Kx s j = 3 ∨ Kx s j = 4 ∨ Kx s j = 5) ∧ l[j]? = some ⟨kindB (Kx s j), Tx s j⟩
  fin : ∀ j, l.length ≤ j → Kx s j = 0
theorem Lst.lt {s : ByteArray} {l : List S95} (h : Lst s l) (j : Nat) : Kx s j ≠ 0 ↔ j < l.length := by
  constructor
  · intro h1
    rcases Nat.lt_or_ge j l.length with h2 | h2
    · exact h2
    · exact absurd (h.fin j h2) h1
  · intro h1 h2
    rcases (h.get j h1).1 with h3 | h3 | h3 | h3 | h3 <;> omega
theorem Lst.rd {s : ByteArray} {l : List S95} (h : Lst s l) (j : Nat) (hj : j < l.length) : rd_T95 l (j : Int) = ⟨kindB (Kx s j), Tx s j⟩ := by
  unfold rd_T95
  rw [Int.toNat_natCast, List.getD_eq_getElem?_getD, (h.get j hj).2]
  rfl
theorem kindB_inj (a c : Int) (ha : a = 1 ∨ a = 2 ∨ a = 3 ∨ a = 4 ∨ a = 5) (hc : c = 1 ∨ c = 2 ∨ c = 3 ∨ c = 4 ∨ c = 5) : (kindB a == kindB c) = (a == c) := by
  rcases ha with rfl | rfl | rfl | rfl | rfl <;> rcases hc with rfl | rfl | rfl | rfl | rfl <;> rfl
theorem is_ref {s : ByteArray} {l : List S95} (h : Lst s l) (j : Nat) (c : Int) (hc : c = 1 ∨ c = 2 ∨ c = 3 ∨ c = 4 ∨ c = 5) : postbagref2_is.f l (j : Int) (kindB c) = some (Kx s j == c) := by
  unfold postbagref2_is.f
  by_cases hj : j < l.length
  · rw [if_pos (by omega), if_pos (by omega), h.rd j hj]
    simp only
    rw [kindB_inj _ _ (h.get j hj).1 hc]
  · rw [if_neg (by omega), h.fin j (by omega)]
    congr 1
    rcases hc with rfl | rfl | rfl | rfl | rfl <;> rfl
theorem digits_piece (s : ByteArray) (i : Nat) (hi : i ≤ s.size) (h : (nextP s i).2.1 = 2) : (nextP s i).2.2.data.toList.all isDig = true ∧ 1 ≤ (nextP s i).2.2.size := by
  have hl := toList_len s
  obtain ⟨hb1, hb2⟩ := blankP_le s.data.toList i (by omega)
  unfold nextP at h ⊢
  simp only at h ⊢
  generalize blankP s.data.toList i = f at *
  by_cases c : f = s.size
  · rw [if_pos c] at h; exact absurd h (by simp)
  · rw [if_neg c] at h ⊢
    have hlt : f < s.data.toList.length := by omega
    have hp := pieceAt_le s.data.toList f hlt
    unfold pieceAt at h hp ⊢
    simp only at h hp ⊢
    rw [show s.data.toList.getD f 0 = s.data.toList[f] by rw [List.getD_eq_getElem?_getD, List.getElem?_eq_getElem hlt]; rfl] at h hp ⊢
    by_cases c1 : isLet s.data.toList[f] = true
    · rw [if_pos c1] at h; exact absurd h (by simp)
    · rw [if_neg c1] at h hp ⊢
      by_cases c2 : isDig s.data.toList[f] = true
      · rw [if_pos c2] at hp ⊢
        simp only at hp ⊢
        constructor
        · have hr := runP_yes isDig s.data.toList f hlt c2
          rw [ByteArray.data_extract, Array.toList_extract, List.extract_eq_take_drop, ← hr]
          have e : runP isDig s.data.toList f - f = ((s.data.toList.drop f).takeWhile isDig).length := by unfold runP; omega
          rw [e, ← List.prefix_iff_eq_take.1 (List.takeWhile_prefix (l := s.data.toList.drop f) isDig)]
          exact List.all_takeWhile
        · rw [ByteArray.size_extract]; omega
      · rw [if_neg c2] at h
        repeat' split at h
        all_goals exact absurd h (by simp)
theorem q_le (s : ByteArray) : ∀ (j i : Nat), i ≤ s.size → (qAt s j i).1 ≤ s.size
  | 0, i, h => nextP_le s i h
  | j + 1, i, h => q_le s j _ (nextP_le s i h)
theorem q_nx (s : ByteArray) (j : Nat) : ∃ i, i ≤ s.size ∧ qAt s j 0 = nextP s i := by
  cases j with
  | zero => exact ⟨0, by omega, rfl⟩
  | succ j => exact ⟨_, q_le s j 0 (by omega), q_succ s j 0⟩
theorem q_digits (s : ByteArray) (j : Nat) (h : Kx s j = 2) : (Tx s j).data.toList.all isDig = true ∧ 1 ≤ (Tx s j).size := by
  obtain ⟨i, hi, e⟩ := q_nx s j
  unfold Kx at h
  unfold Tx
  rw [e] at h ⊢
  exact digits_piece s i hi h
theorem q_text (s : ByteArray) (j : Nat) : (Tx s j).size ≤ s.size := by
  obtain ⟨i, _, e⟩ := q_nx s j
  unfold Tx
  rw [e]
  exact nx_text s (i, 0, ⟨#[]⟩)
theorem small_ref {s : ByteArray} {l : List S95} (h : Lst s l) (k : Nat) (hk : 20 ≤ k) (j : Nat) (most : Int) :
    ∃ n, postbagref2_small.f k l (j : Int) most = some (n, (shortP most (qAt s j 0)).2) ∧ ((shortP most (qAt s j 0)).2 = true → n = (shortP most (qAt s j 0)).1 ∧ j < l.length) := by
  have hi := is_ref h j 2 (by omega)
  unfold postbagref2_small.f
  rw [show kindB 2 = 100 from rfl] at hi
  rw [hi, Option.bind_some]
  have hsp : shortP most (qAt s j 0) = ((digitsP (Tx s j)).1, (digitsP (Tx s j)).2 && (Kx s j == 2 && (decide ((Tx s j).size ≤ 2) && decide ((digitsP (Tx s j)).1 ≤ most)))) := rfl
  rw [hsp]
  by_cases h2 : Kx s j = 2
  · have hj := (h.lt j).1 (by rw [h2]; decide)
    obtain ⟨hd, h1⟩ := q_digits s j h2
    rw [if_pos (by rw [h2]; rfl), if_pos (by omega), if_pos (by omega), h.rd j hj]
    simp only
    by_cases h3 : (Tx s j).size ≤ 2
    · rw [if_neg (by omega), count_f k hk _ (by omega), Option.bind_some]
      refine ⟨(digitsP (Tx s j)).1, ?_, fun _ => ⟨rfl, hj⟩⟩
      have hd2 : (digitsP (Tx s j)).2 = true := by unfold digitsP; rw [if_pos ⟨h1, by omega, hd⟩]
      rw [hd2, h2, decide_eq_true h3]
      rfl
    · rw [if_pos (by omega)]
      refine ⟨0, ?_, fun hh => ?_⟩
      · rw [decide_eq_false h3]
        simp
      · rw [decide_eq_false h3] at hh
        simp at hh
  · have hf : (Kx s j == 2) = false := by simpa using h2
    rw [hf, if_neg (by decide)]
    refine ⟨0, by simp, fun hh => by simp at hh⟩
theorem years_ref {s : ByteArray} {l : List S95} (h : Lst s l) (k : Nat) (hk : 30 ≤ k) (j : Nat) :
    ∃ n, postbagref2_years.f k l (j : Int) = some (n, (yearP (qAt s j 0)).2) ∧ ((yearP (qAt s j 0)).2 = true → n = (yearP (qAt s j 0)).1) := by
  obtain ⟨k, rfl⟩ : ∃ m, k = m + 2 := ⟨k - 2, by omega⟩
  have hi := is_ref h j 2 (by omega)
  rw [show kindB 2 = 100 from rfl] at hi
  unfold postbagref2_years.f
  rw [hi, Option.bind_some]
  have hsp : yearP (qAt s j 0) = (if (Tx s j).size = 2 then (if (digitsP (Tx s j)).1 + 1900 < 1950 then (digitsP (Tx s j)).1 + 2000 else (digitsP (Tx s j)).1 + 1900) else if (Tx s j).size = 3 then (digitsP (Tx s j)).1 + 1900 else (digitsP (Tx s j)).1, decide ((Tx s j).size ≠ 1) && ((digitsP (Tx s j)).2 && Kx s j == 2)) := rfl
  rw [hsp]
  have hno : ∀ (x : Option (Int × Bool)) (v : Int) (b : Bool), x = some (0, false) → b = false → ∃ n, x = some (n, b) ∧ (b = true → n = v) := fun x v b h1 h2 => ⟨0, by rw [h1, h2], fun h => by rw [h2] at h; exact absurd h (by decide)⟩
  have hj0 : ∀ i : Int, postbagref2_years.j0 (k + 2) l i true = some (0, false) := fun i => by rw [postbagref2_years.j0, if_pos rfl]
  by_cases h2 : Kx s j = 2
  · have hj := (h.lt j).1 (by rw [h2]; decide)
    obtain ⟨hd, h1⟩ := q_digits s j h2
    rw [if_pos (by rw [h2]; rfl), if_pos (by omega), if_pos (by omega), h.rd j hj]
    simp only
    by_cases h3 : (Tx s j).size < 2
    · rw [if_pos (by omega), hj0]
      exact hno _ _ _ rfl (by rw [decide_eq_false (by omega)]; rfl)
    · rw [if_neg (by omega)]
      by_cases h4 : (Tx s j).size > 4
      · rw [decide_eq_true (by omega), hj0]
        have hf : (digitsP (Tx s j)).2 = false := by unfold digitsP; rw [if_neg (by omega)]
        exact hno _ _ _ rfl (by rw [hf]; simp)
      · have hd2 : (digitsP (Tx s j)).2 = true := by unfold digitsP; rw [if_pos ⟨h1, by omega, hd⟩]
        have hbd := digitsP_bound (Tx s j)
        rw [decide_eq_false (by omega), postbagref2_years.j0, if_neg (by decide), if_pos (by omega), if_pos (by omega), h.rd j hj]
        simp only
        rw [count_f (k + 1) (by omega) _ (by omega), Option.bind_some, hd2, h2, decide_eq_true (show (Tx s j).size ≠ 1 from by omega)]
        have tt : (true && (true && ((2 : Int) == 2))) = true := rfl
        rw [tt]
        refine ⟨_, ?_, fun _ => rfl⟩
        have w1 := Lib.hid (w64b ((digitsP (Tx s j)).1 + 2000) (by omega) (by omega))
        have w2 := Lib.hid (w64b ((digitsP (Tx s j)).1 + 1900) (by omega) (by omega))
        by_cases h5 : (Tx s j).size = 2
        · rw [if_pos (by omega), if_pos h5, postbagref2_years.j1, w1.out, w2.out]
          by_cases h6 : (digitsP (Tx s j)).1 < 50
          · rw [if_pos (decide_eq_true h6), if_pos (by omega)]
          · rw [if_neg (by rw [decide_eq_false h6]; decide), if_pos (by omega), if_pos (by omega), h.rd j hj]
            simp only
            rw [if_pos (by omega), if_neg (by omega)]
        · rw [if_neg (by omega), if_neg h5, postbagref2_years.j1, w2.out, if_neg (by decide), if_pos (by omega), if_pos (by omega), h.rd j hj]
          simp only
          by_cases h7 : (Tx s j).size = 3
          · rw [if_pos (by omega), if_pos h7]
          · rw [if_neg (by omega), if_neg h7]
  · have hf : (Kx s j == 2) = false := by simpa using h2
    rw [hf, if_neg (by decide), hj0]
    exact hno _ _ _ rfl (by simp)
def lowZones : List ByteArray := [(⟨#[101, 115, 116]⟩ : ByteArray), (⟨#[101, 100, 116]⟩ : ByteArray), (⟨#[99, 115, 116]⟩ : ByteArray), (⟨#[99, 100, 116]⟩ : ByteArray), (⟨#[109, 115, 116]⟩ : ByteArray), (⟨#[109, 100, 116]⟩ : ByteArray), (⟨#[112, 115, 116]⟩ : ByteArray), (⟨#[112, 100, 116]⟩ : ByteArray)]
theorem letters_step (k : Nat) (x3 : List ByteArray) (x4 : List Int) (x5 : ByteArray) (x6 : Int) : postbagref2_letters.l0 (k + 1) x3 x4 x5 x6 = if x6 < (x3.length : Int) then (if 0 ≤ x6 then (if (rdOf ByteArray.empty x3 x6).toList = x5.toList then (if x6 < (x4.length : Int) then (some (wrap64 ((-60) * (rd x4 x6)))) else (none)) else (postbagref2_letters.l0 k x3 x4 x5 (wrap64 (x6 + 1)))) else (none)) else (some 0) := by rw [postbagref2_letters.l0]
theorem letters_l0 (k : Nat) (t : ByteArray) : postbagref2_letters.l0 (k + 9) lowZones [5, 4, 6, 5, 7, 6, 8, 7] t 0 =
    some (if [101, 115, 116] = t.toList then -300 else if [101, 100, 116] = t.toList then -240 else if [99, 115, 116] = t.toList then -360 else if [99, 100, 116] = t.toList then -300 else if [109, 115, 116] = t.toList then -420 else if [109, 100, 116] = t.toList then -360 else if [112, 115, 116] = t.toList then -480 else if [112, 100, 116] = t.toList then -420 else 0) := by
  have st : ∀ (k : Nat) (j : Nat) (hj : j < 8) (b : List UInt8) (z : Int), (rdOf ByteArray.empty lowZones (j : Int)).toList = b → (-60) * (rd [5, 4, 6, 5, 7, 6, 8, 7] (j : Int)) = z → -1000 ≤ z ∧ z ≤ 0 →
      postbagref2_letters.l0 (k + 1) lowZones [5, 4, 6, 5, 7, 6, 8, 7] t (j : Int) = if b = t.toList then some z else postbagref2_letters.l0 k lowZones [5, 4, 6, 5, 7, 6, 8, 7] t ((j + 1 : Nat) : Int) := by
    intro k j hj b z h1 h2 h3
    have e : (lowZones.length : Int) = 8 := rfl
    have e2 : (([5, 4, 6, 5, 7, 6, 8, 7] : List Int).length : Int) = 8 := rfl
    rw [letters_step, e, e2, if_pos (by omega), if_pos (by omega), h1, if_pos (show (j : Int) < 8 by omega), h2, w64b z (by omega) (by omega), w64b ((j : Int) + 1) (by omega) (by omega)]
    rfl
  have rf : ∀ x : ByteArray, x.toList = x.data.toList := fun x => ByteArray.toList_eq x
  have e9 : postbagref2_letters.l0 (k + 1) lowZones [5, 4, 6, 5, 7, 6, 8, 7] t ((7 + 1 : Nat) : Int) = some 0 := by rw [letters_step, if_neg (by decide)]
  have is : ∀ (c : Prop) [Decidable c] (x y : Int) (o : Option Int), o = some y → (if c then some x else o) = some (if c then x else y) := fun c _ x y o h => by rw [h]; split <;> rfl
  rw [show (0 : Int) = ((0 : Nat) : Int) from rfl, st (k + 8) 0 (by omega) [101, 115, 116] (-300) (by rw [rf]; rfl) rfl ⟨by decide, by decide⟩, st (k + 7) 1 (by omega) [101, 100, 116] (-240) (by rw [rf]; rfl) rfl ⟨by decide, by decide⟩, st (k + 6) 2 (by omega) [99, 115, 116] (-360) (by rw [rf]; rfl) rfl ⟨by decide, by decide⟩, st (k + 5) 3 (by omega) [99, 100, 116] (-300) (by rw [rf]; rfl) rfl ⟨by decide, by decide⟩,
    st (k + 4) 4 (by omega) [109, 115, 116] (-420) (by rw [rf]; rfl) rfl ⟨by decide, by decide⟩, st (k + 3) 5 (by omega) [109, 100, 116] (-360) (by rw [rf]; rfl) rfl ⟨by decide, by decide⟩, st (k + 2) 6 (by omega) [112, 115, 116] (-480) (by rw [rf]; rfl) rfl ⟨by decide, by decide⟩, st (k + 1) 7 (by omega) [112, 100, 116] (-420) (by rw [rf]; rfl) rfl ⟨by decide, by decide⟩, e9]
  exact is _ _ _ _ (is _ _ _ _ (is _ _ _ _ (is _ _ _ _ (is _ _ _ _ (is _ _ _ _ (is _ _ _ _ (is _ _ _ _ rfl)))))))
theorem low_is (t : ByteArray) (a b c A B C : UInt8) (h1 : up a = A ∧ up b = B ∧ up c = C) (h2 : low A = a ∧ low B = b ∧ low C = c) : ([a, b, c] = (lowerP t).toList) = ((upperP t).data.toList = [A, B, C]) := by
  rw [ByteArray.toList_eq]
  show ([a, b, c] = t.data.toList.map low) = (t.data.toList.map up = [A, B, C])
  apply propext
  constructor
  · intro h
    have := congrArg (List.map up) h
    rw [map_up_low] at this
    rw [← this, ← h1.1, ← h1.2.1, ← h1.2.2]
    rfl
  · intro h
    have := congrArg (List.map low) h
    rw [map_low_up] at this
    rw [this, ← h2.1, ← h2.2.1, ← h2.2.2]
    rfl
theorem letters_ref (k : Nat) (t : ByteArray) (ht : t.size ≤ 140737488351232) (hk : t.size + 20 < k) : postbagref2_letters.f k t = some (zoneL (upperP t).data.toList) := by
  obtain ⟨m, rfl⟩ : ∃ m, k = m + 9 := ⟨k - 9, by omega⟩
  unfold postbagref2_letters.f
  rw [lower_f _ t ht (by omega), Option.bind_some]
  rw [show [(⟨#[101, 115, 116]⟩ : ByteArray), (⟨#[101, 100, 116]⟩ : ByteArray), (⟨#[99, 115, 116]⟩ : ByteArray), (⟨#[99, 100, 116]⟩ : ByteArray), (⟨#[109, 115, 116]⟩ : ByteArray), (⟨#[109, 100, 116]⟩ : ByteArray), (⟨#[112, 115, 116]⟩ : ByteArray), (⟨#[112, 100, 116]⟩ : ByteArray)] = lowZones from rfl, letters_l0 m]
  congr 1
  simp only [low_is t 101 115 116 69 83 84 ⟨rfl, rfl, rfl⟩ ⟨rfl, rfl, rfl⟩, low_is t 101 100 116 69 68 84 ⟨rfl, rfl, rfl⟩ ⟨rfl, rfl, rfl⟩, low_is t 99 115 116 67 83 84 ⟨rfl, rfl, rfl⟩ ⟨rfl, rfl, rfl⟩, low_is t 99 100 116 67 68 84 ⟨rfl, rfl, rfl⟩ ⟨rfl, rfl, rfl⟩,
    low_is t 109 115 116 77 83 84 ⟨rfl, rfl, rfl⟩ ⟨rfl, rfl, rfl⟩, low_is t 109 100 116 77 68 84 ⟨rfl, rfl, rfl⟩ ⟨rfl, rfl, rfl⟩, low_is t 112 115 116 80 83 84 ⟨rfl, rfl, rfl⟩ ⟨rfl, rfl, rfl⟩, low_is t 112 100 116 80 68 84 ⟨rfl, rfl, rfl⟩ ⟨rfl, rfl, rfl⟩]
  unfold zoneL
  generalize (upperP t).data.toList = u
  have dj : ∀ (a b : List UInt8), a ≠ b → u = a → u ≠ b := fun a b h h1 h2 => h (h1.symm.trans h2)
  by_cases h1 : u = [69, 83, 84]
  · subst h1; decide
  by_cases h2 : u = [69, 68, 84]
  · subst h2; decide
  by_cases h3 : u = [67, 83, 84]
  · subst h3; decide
  by_cases h4 : u = [67, 68, 84]
  · subst h4; decide
  by_cases h5 : u = [77, 83, 84]
  · subst h5; decide
  by_cases h6 : u = [77, 68, 84]
  · subst h6; decide
  by_cases h7 : u = [80, 83, 84]
  · subst h7; decide
  by_cases h8 : u = [80, 68, 84]
  · subst h8; decide
  rw [if_neg h1, if_neg h2, if_neg h3, if_neg h4, if_neg h5, if_neg h6, if_neg h7, if_neg h8, if_neg h8, if_neg h7, if_neg h6, if_neg h5, if_neg h4, if_neg h3, if_neg h2, if_neg h1]
end Go.Proofs.YtjlchnmpebdggaaDoor.Mo
end
section
namespace Go.Proofs.YtjlchnmpebdggaaDoor.Mo
open Go.RowKit Go.Proofs.YtjlchnmpebdggaaDoorW.PrintWords
theorem Lst.end_ {s : ByteArray} {l : List S95} (h : Lst s l) (j : Nat) (hj : j ≤ l.length) : ((j : Int) == (l.length : Int)) = (Kx s j == 0) := by
  have := h.lt j
  rw [Bool.eq_iff_iff, beq_iff_eq, beq_iff_eq]
  constructor
  · intro e
    exact h.fin j (by omega)
  · intro e
    rcases Nat.lt_or_ge j l.length with h2 | h2
    · exact absurd e (this.2 h2)
    · omega
theorem nx_q (s : ByteArray) (j : Nat) : nx s (qAt s j 0) = qAt s (j + 1) 0 := (q_succ s j 0).symm
theorem end_ref {s : ByteArray} {l : List S95} (h : Lst s l) (hs : s.size ≤ 1048576) (k : Nat) (hk : s.size + 60 ≤ k) (hlen : l.length ≤ 1048576) (i : Nat) (hi : i ≤ l.length) (y m d hh mi sec : Int) :
    ∃ z, postbagref2_ending.j0 (k + 1) l (i : Int) y m d hh mi sec 0 = some (y, m, d, hh, mi, sec, z, (zoneCP (qAt s i 0)).2 && (zoneCS s (qAt s i 0)).2.1 == 0) ∧
      (((zoneCP (qAt s i 0)).2 && (zoneCS s (qAt s i 0)).2.1 == 0) = true → z = (zoneCP (qAt s i 0)).1) := by
  have i1 := is_ref h i 1 (by omega)
  have i3 := is_ref h i 3 (by omega)
  rw [show kindB 1 = 97 from rfl] at i1
  rw [show kindB 3 = 115 from rfl] at i3
  have hzc : zoneCP (qAt s i 0) = if Kx s i = 3 then zoneT (Tx s i) else if Kx s i = 1 then (zoneL (upperP (Tx s i)).data.toList, true) else (0, true) := rfl
  have hzs : zoneCS s (qAt s i 0) = if Kx s i = 3 ∨ Kx s i = 1 then qAt s (i + 1) 0 else qAt s i 0 := by rw [← nx_q]; rfl
  have W := Lib.hid (show wrap64 ((i : Int) + 1) = ((i + 1 : Nat) : Int) from by rw [w64b _ (by omega) (by omega)]; omega)
  rw [hzc, hzs, postbagref2_ending.j0, i1, i3, W.out, Option.bind_some, Option.bind_some]
  by_cases h1 : Kx s i = 1
  · have hj := (h.lt i).1 (by rw [h1]; decide)
    rw [if_pos (by rw [h1]; rfl), if_pos (by omega), if_pos (by omega), h.rd i hj]
    simp only
    rw [letters_ref k (Tx s i) (by have := q_text s i; omega) (by have := q_text s i; omega), Option.bind_some, h.end_ (i + 1) (by omega), if_neg (by omega), if_pos h1, if_pos (.inr h1)]
    exact ⟨_, rfl, fun _ => rfl⟩
  · rw [if_neg (by simpa using h1)]
    by_cases h3 : Kx s i = 3
    · have hj := (h.lt i).1 (by rw [h3]; decide)
      rw [if_pos (by rw [h3]; rfl), if_pos (by omega), if_pos (by omega), h.rd i hj]
      simp only
      rw [zoned_f k (by omega), Option.bind_some, h.end_ (i + 1) (by omega), if_pos h3, if_pos (show Kx s i = 3 ∨ Kx s i = 1 from .inl h3)]
      unfold zonedP
      by_cases hz : (zoneT (Tx s i)).2 = true
      · rw [if_pos hz, hz]
        simp only
        exact ⟨_, rfl, fun _ => rfl⟩
      · rw [if_neg hz]
        simp only [Bool.false_eq_true, if_false]
        have hz2 : (zoneT (Tx s i)).2 = false := by simpa using hz
        rw [hz2]
        exact ⟨_, rfl, fun hh => absurd hh (by simp)⟩
    · rw [if_neg (by simpa using h3), h.end_ i hi, if_neg h3, if_neg h1, if_neg (by rintro (h | h); exact h3 h; exact h1 h)]
      exact ⟨_, rfl, fun _ => rfl⟩
theorem ending_ref {s : ByteArray} {l : List S95} (h : Lst s l) (hs : s.size ≤ 1048576) (k : Nat) (hk : s.size + 70 ≤ k) (hlen : l.length ≤ 1048576) (i : Nat) (hi : i ≤ l.length) (y m d hh mi : Int) (B : Bool)
    (hB : B = ((secondP s (qAt s i 0)).2 && ((zoneCP (secondS s (qAt s i 0))).2 && (zoneCS s (secondS s (qAt s i 0))).2.1 == 0))) :
    ∃ sec z, postbagref2_ending.f k l (i : Int) y m d hh mi 0 0 = some (y, m, d, hh, mi, sec, z, B) ∧ (B = true → sec = (secondP s (qAt s i 0)).1 ∧ z = (zoneCP (secondS s (qAt s i 0))).1) := by
  obtain ⟨k, rfl⟩ : ∃ m, k = m + 1 := ⟨k - 1, by omega⟩
  have i5 := is_ref h i 5 (by omega)
  rw [show kindB 5 = 58 from rfl] at i5
  have hsp : secondP s (qAt s i 0) = if Kx s i = 5 then (if 59 < (shortP 60 (qAt s (i + 1) 0)).1 then 59 else (shortP 60 (qAt s (i + 1) 0)).1, (shortP 60 (qAt s (i + 1) 0)).2) else (0, true) := by rw [← nx_q]; rfl
  have hss : secondS s (qAt s i 0) = if Kx s i = 5 then qAt s (i + 2) 0 else qAt s i 0 := by rw [show i + 2 = i + 1 + 1 from rfl, ← nx_q, ← nx_q]; rfl
  have W := Lib.hid (show wrap64 ((i : Int) + 1) = ((i + 1 : Nat) : Int) from by rw [w64b _ (by omega) (by omega)]; omega)
  have W2 := Lib.hid (show wrap64 ((i : Int) + 2) = ((i + 2 : Nat) : Int) from by rw [w64b _ (by omega) (by omega)]; omega)
  unfold postbagref2_ending.f
  rw [hsp, hss] at hB ⊢
  rw [i5, Option.bind_some, W.out, W2.out]
  by_cases h5 : Kx s i = 5
  · rw [if_pos h5, if_pos h5] at hB ⊢
    rw [if_pos (by rw [h5]; rfl)]
    obtain ⟨n, e, hn⟩ := small_ref h (k + 1) (by omega) (i + 1) 60
    rw [e, Option.bind_some]
    simp only at hB ⊢
    cases hb : (shortP 60 (qAt s (i + 1) 0)).2 with
    | false =>
      rw [if_neg (by decide)]
      rw [hb, Bool.false_and] at hB
      subst hB
      exact ⟨0, 0, rfl, fun hh => absurd hh (by decide)⟩
    | true =>
      obtain ⟨hn1, hj⟩ := hn hb
      have hr := (short_true hb)
      rw [if_pos rfl]
      rw [hb, Bool.true_and] at hB
      obtain ⟨z, e2, hz⟩ := end_ref h hs k (by omega) hlen (i + 2) (by omega) y m d hh mi (if 59 < n then 59 else n)
      rw [← hB] at e2 hz
      have e3 : (if n = 60 then postbagref2_ending.j0 (k + 1) l ((i + 2 : Nat) : Int) y m d hh mi 59 0 else postbagref2_ending.j0 (k + 1) l ((i + 2 : Nat) : Int) y m d hh mi n 0) = postbagref2_ending.j0 (k + 1) l ((i + 2 : Nat) : Int) y m d hh mi (if 59 < n then 59 else n) 0 := by
        by_cases h60 : n = 60
        · rw [if_pos h60, if_pos (by omega)]
        · rw [if_neg h60, if_neg (by omega)]
      rw [e3, e2]
      exact ⟨_, _, rfl, fun hh => ⟨by rw [hn1], hz hh⟩⟩
  · rw [if_neg h5, if_neg h5] at hB ⊢
    rw [if_neg (by simpa using h5)]
    simp only [Bool.true_and] at hB ⊢
    obtain ⟨z, e2, hz⟩ := end_ref h hs k (by omega) hlen i hi y m d hh mi 0
    rw [← hB] at e2 hz
    rw [e2]
    exact ⟨_, _, rfl, fun hh => ⟨rfl, hz hh⟩⟩
end Go.Proofs.YtjlchnmpebdggaaDoor.Mo
end
section
namespace Go.Proofs.YtjlchnmpebdggaaDoor.Mo
open Go.RowKit Go.Proofs.YtjlchnmpebdggaaDoorW.PrintWords
def lowWeeks : ByteArray := ⟨#[115, 117, 110, 109, 111, 110, 116, 117, 101, 119, 101, 100, 116, 104, 117, 102, 114, 105, 115, 97, 116]⟩
theorem weeks_low : ∀ i (h : i < weekL.length), (lowWeeks.extract (3 * i) (3 * i + 3)).toList = (lowerP weekL[i]).toList := by
  intro i h
  have h2 : i < 7 := h
  have : i = 0 ∨ i = 1 ∨ i = 2 ∨ i = 3 ∨ i = 4 ∨ i = 5 ∨ i = 6 := by omega
  simp only [ByteArray.toList_eq]
  rcases this with rfl | rfl | rfl | rfl | rfl | rfl | rfl <;> rfl
theorem among_weeks (k : Nat) (t : ByteArray) (ht : t.size ≤ 140737488351232) (hk : t.size + 20 < k) : postbagref2_among.f k lowWeeks t = some (placeP t weekL 0 + 1) := by
  unfold postbagref2_among.f
  rw [lower_f k t ht (by omega), Option.bind_some]
  exact among_l0 lowWeeks t weekL (by decide) rfl weeks_low 7 k 0 (by omega) rfl (by omega)
theorem place_ge (t : ByteArray) : ∀ (L : List ByteArray) (i : Nat), -1 ≤ placeP t L i
  | [], i => by unfold placeP; omega
  | x :: L, i => by
    unfold placeP
    have := place_ge t L (i + 1)
    split <;> omega
def headAt (s : ByteArray) (b : Nat) : Bool :=
  (zoneCP (secondS s (qAt s (b + 6) 0))).2 && ((shortP 99 (qAt s b 0)).2 && ((monthP (qAt s (b + 1) 0)).2 && ((yearP (qAt s (b + 2) 0)).2 && ((shortP 23 (qAt s (b + 3) 0)).2 && ((Kx s (b + 4) == 5) && ((shortP 59 (qAt s (b + 5) 0)).2 && (secondP s (qAt s (b + 6) 0)).2)))))) && (zoneCS s (secondS s (qAt s (b + 6) 0))).2.1 == 0
def IsR (s : ByteArray) (b : Nat) (x : Option (Int × Int × Int × Int × Int × Int × Int × Bool)) : Prop :=
  ∃ y m d h mi sec z, x = some (y, m, d, h, mi, sec, z, headAt s b) ∧ (headAt s b = true → y = (yearP (qAt s (b + 2) 0)).1 ∧ m = (monthP (qAt s (b + 1) 0)).1 ∧ d = (shortP 99 (qAt s b 0)).1 ∧ h = (shortP 23 (qAt s (b + 3) 0)).1 ∧ mi = (shortP 59 (qAt s (b + 5) 0)).1 ∧ sec = (secondP s (qAt s (b + 6) 0)).1 ∧ z = (zoneCP (secondS s (qAt s (b + 6) 0))).1)
theorem isR_no {s : ByteArray} {b : Nat} {x : Option (Int × Int × Int × Int × Int × Int × Int × Bool)} (y m d h mi sec z : Int) (e : x = some (y, m, d, h, mi, sec, z, false)) (hf : headAt s b = false) : IsR s b x :=
  ⟨y, m, d, h, mi, sec, z, by rw [e, hf], fun h => by rw [hf] at h; exact absurd h (by decide)⟩
theorem said_step (k : Nat) (x0 : List S95) (x4 : Int) : postbagref2_said.j0 (k + 1) x0 x4 = (postbagref2_small.f k x0 x4 99).bind fun bt305 => (if bt305.2 = true then ((postbagref2_is.f x0 (wrap64 (x4 + 1)) 97).bind fun t307 => (postbagref2_said.j1 k x0 x4 bt305.1 (!t307) 0 0 0 0 0 0 0)) else (postbagref2_said.j1 k x0 x4 bt305.1 true 0 0 0 0 0 0 0)) := by rw [postbagref2_said.j0]
set_option maxHeartbeats 1000000 in
theorem said_at {s : ByteArray} {l : List S95} (h : Lst s l) (hs : s.size ≤ 1048576) (k : Nat) (hk : s.size + 100 ≤ k) (hlen : l.length ≤ 1048576) (b : Nat) (hb : b ≤ 2) : IsR s b (postbagref2_said.j0 (k + 2) l (b : Int)) := by
  obtain ⟨d, ed, hd⟩ := small_ref h (k + 1) (by omega) b 99
  have i1 := is_ref h (b + 1) 1 (by omega)
  rw [show kindB 1 = 97 from rfl] at i1
  have W : ∀ c : Nat, c ≤ 10 → wrap64 ((b : Int) + (c : Int)) = ((b + c : Nat) : Int) := fun c hc => by rw [w64b _ (by omega) (by omega)]; omega
  have W1 := Lib.hid (W 1 (by omega))
  have W2 := Lib.hid (W 2 (by omega))
  have W3 := Lib.hid (W 3 (by omega))
  have W4 := Lib.hid (W 4 (by omega))
  have W5 := Lib.hid (W 5 (by omega))
  have W6 := Lib.hid (W 6 (by omega))
  clear W
  have e1 : ((1 : Nat) : Int) = 1 := rfl
  have e2 : ((2 : Nat) : Int) = 2 := rfl
  have e3 : ((3 : Nat) : Int) = 3 := rfl
  have e4 : ((4 : Nat) : Int) = 4 := rfl
  have e5 : ((5 : Nat) : Int) = 5 := rfl
  have e6 : ((6 : Nat) : Int) = 6 := rfl
  rw [e1] at W1
  rw [e2] at W2
  rw [e3] at W3
  rw [e4] at W4
  rw [e5] at W5
  rw [e6] at W6
  have hj1 : ∀ x, postbagref2_said.j1 (k + 1) l (b : Int) x true 0 0 0 0 0 0 0 = some (0, 0, 0, 0, 0, 0, 0, false) := fun x => by rw [postbagref2_said.j1, if_pos rfl]
  rw [said_step, ed, Option.bind_some, W1.out, i1, Option.bind_some]
  simp only
  by_cases v2 : (shortP 99 (qAt s b 0)).2 = true
  rotate_left
  · have v2' : (shortP 99 (qAt s b 0)).2 = false := by simpa using v2
    rw [v2', if_neg (by decide), hj1]
    exact isR_no _ _ _ _ _ _ _ rfl (by unfold headAt; rw [v2']; simp)
  obtain ⟨hd1, hbl⟩ := hd v2
  rw [v2, if_pos rfl]
  have hmo : monthP (qAt s (b + 1) 0) = if Kx s (b + 1) = 1 then (placeP (Tx s (b + 1)) monthL 0 + 1, decide (0 ≤ placeP (Tx s (b + 1)) monthL 0)) else (0, false) := rfl
  by_cases k1 : Kx s (b + 1) = 1
  rotate_left
  · have k1' : (Kx s (b + 1) == 1) = false := by simpa using k1
    rw [k1', Bool.not_false, hj1]
    exact isR_no _ _ _ _ _ _ _ rfl (by unfold headAt; rw [hmo, if_neg k1]; simp)
  rw [if_pos k1] at hmo
  have hb1 := (h.lt (b + 1)).1 (by rw [k1]; decide)
  obtain ⟨y, ey, hy⟩ := years_ref h k (by omega) (b + 2)
  obtain ⟨hh, eh, hh1⟩ := small_ref h k (by omega) (b + 3) 23
  obtain ⟨mi, em, hm1⟩ := small_ref h k (by omega) (b + 5) 59
  have i4 := is_ref h (b + 4) 5 (by omega)
  rw [show kindB 5 = 58 from rfl] at i4
  have hpl := place_ge (Tx s (b + 1)) monthL 0
  rw [k1, show (!((1 : Int) == 1)) = false from rfl, postbagref2_said.j1, if_neg (by decide), W1.out, W2.out, W3.out, W4.out, W5.out, W6.out, if_pos (by omega), if_pos (by omega), h.rd (b + 1) hb1]
  simp only
  rw [show (⟨#[106, 97, 110, 102, 101, 98, 109, 97, 114, 97, 112, 114, 109, 97, 121, 106, 117, 110, 106, 117, 108, 97, 117, 103, 115, 101, 112, 111, 99, 116, 110, 111, 118, 100, 101, 99]⟩ : ByteArray) = lowMonths from rfl,
    among_months k _ (by have := q_text s (b + 1); omega) (by have := q_text s (b + 1); omega), ey, eh, em, i4, Option.bind_some, Option.bind_some, Option.bind_some, Option.bind_some, Option.bind_some]
  simp only
  by_cases v3 : 0 ≤ placeP (Tx s (b + 1)) monthL 0
  rotate_left
  · rw [if_pos (by omega)]
    exact isR_no _ _ _ _ _ _ _ rfl (by unfold headAt; rw [hmo, decide_eq_false v3]; simp)
  rw [if_neg (by omega)]
  by_cases v4 : (yearP (qAt s (b + 2) 0)).2 = true
  rotate_left
  · have v4' : (yearP (qAt s (b + 2) 0)).2 = false := by simpa using v4
    rw [v4', if_neg (by decide)]
    exact isR_no _ _ _ _ _ _ _ rfl (by unfold headAt; rw [v4']; simp)
  rw [v4, if_pos rfl]
  by_cases v5 : (shortP 23 (qAt s (b + 3) 0)).2 = true
  rotate_left
  · have v5' : (shortP 23 (qAt s (b + 3) 0)).2 = false := by simpa using v5
    rw [v5', if_neg (by decide)]
    exact isR_no _ _ _ _ _ _ _ rfl (by unfold headAt; rw [v5']; simp)
  rw [v5, if_pos rfl]
  by_cases v7 : (shortP 59 (qAt s (b + 5) 0)).2 = true
  rotate_left
  · have v7' : (shortP 59 (qAt s (b + 5) 0)).2 = false := by simpa using v7
    rw [v7', if_neg (by decide)]
    exact isR_no _ _ _ _ _ _ _ rfl (by unfold headAt; rw [v7']; simp)
  rw [v7, if_pos rfl]
  by_cases v6 : Kx s (b + 4) = 5
  rotate_left
  · have v6' : (Kx s (b + 4) == 5) = false := by simpa using v6
    rw [v6', if_neg (by decide)]
    exact isR_no _ _ _ _ _ _ _ rfl (by unfold headAt; rw [v6']; simp)
  rw [v6, if_pos (by decide)]
  have hB : headAt s b = ((secondP s (qAt s (b + 6) 0)).2 && ((zoneCP (secondS s (qAt s (b + 6) 0))).2 && (zoneCS s (secondS s (qAt s (b + 6) 0))).2.1 == 0)) := by
    unfold headAt
    rw [v2, hmo, decide_eq_true v3, v4, v5, v6, v7]
    simp only [Bool.true_and]
    rw [show ((5 : Int) == 5) = true from rfl]
    generalize (secondP s (qAt s (b + 6) 0)).2 = A
    generalize (zoneCP (secondS s (qAt s (b + 6) 0))).2 = Z
    cases A <;> cases Z <;> rfl
  obtain ⟨sec, z, ee, he⟩ := ending_ref h hs k (by omega) hlen (b + 6) (by have := (hm1 v7).2; omega) y (placeP (Tx s (b + 1)) monthL 0 + 1) d hh mi (headAt s b) hB
  rw [ee, Option.bind_some]
  exact ⟨_, _, _, _, _, _, _, rfl, fun ht => ⟨hy v4, by rw [hmo], hd1, (hh1 v5).1, (hm1 v7).1, (he ht).1, (he ht).2⟩⟩
end Go.Proofs.YtjlchnmpebdggaaDoor.Mo
end
section
namespace Go.Proofs.YtjlchnmpebdggaaDoor.Mo
open Go.RowKit Go.Proofs.YtjlchnmpebdggaaDoorW.PrintWords
def bx (s : ByteArray) : Nat := if Kx s 0 = 1 then 2 else 0
theorem hq_all (s : ByteArray) : hq1 s = qAt s 0 0 ∧ hq2 s = qAt s (bx s) 0 ∧ hq3 s = qAt s (bx s + 1) 0 ∧ hq4 s = qAt s (bx s + 2) 0 ∧ hq5 s = qAt s (bx s + 3) 0 ∧ hq6 s = qAt s (bx s + 4) 0 ∧ hq7 s = qAt s (bx s + 5) 0 ∧ hq8 s = qAt s (bx s + 6) 0 := by
  have h1 : hq1 s = qAt s 0 0 := rfl
  have h2 : hq2 s = qAt s (bx s) 0 := by
    unfold hq2 weekS bx
    rw [h1]
    have e : (qAt s 0 0).2.1 = Kx s 0 := rfl
    rw [e]
    by_cases c : Kx s 0 = 1
    · rw [if_pos c, if_pos c, nx_q, nx_q]
    · rw [if_neg c, if_neg c]
  have h3 : hq3 s = qAt s (bx s + 1) 0 := by unfold hq3; rw [h2, nx_q]
  have h4 : hq4 s = qAt s (bx s + 2) 0 := by unfold hq4; rw [h3, nx_q]
  have h5 : hq5 s = qAt s (bx s + 3) 0 := by unfold hq5; rw [h4, nx_q]
  have h6 : hq6 s = qAt s (bx s + 4) 0 := by unfold hq6; rw [h5, nx_q]
  have h7 : hq7 s = qAt s (bx s + 5) 0 := by unfold hq7; rw [h6, nx_q]
  have h8 : hq8 s = qAt s (bx s + 6) 0 := by unfold hq8; rw [h7, nx_q]
  exact ⟨h1, h2, h3, h4, h5, h6, h7, h8⟩
theorem second_at (s : ByteArray) (j : Nat) : secondP s (qAt s j 0) = if Kx s j = 5 then (if 59 < (shortP 60 (qAt s (j + 1) 0)).1 then 59 else (shortP 60 (qAt s (j + 1) 0)).1, (shortP 60 (qAt s (j + 1) 0)).2) else (0, true) := by rw [q_succ]; rfl
theorem seconds_at (s : ByteArray) (j : Nat) : secondS s (qAt s j 0) = if Kx s j = 5 then qAt s (j + 1 + 1) 0 else qAt s j 0 := by rw [q_succ, q_succ]; rfl
theorem bools9 (z w a b c d e f g q : Bool) : ((z && (w && (a && (b && (c && (d && (e && (f && (g && true))))))))) && q) = (w && ((z && (a && (b && (c && (d && (e && (f && g))))))) && q)) := by
  cases w
  · cases z <;> cases q <;> rfl
  · simp
theorem head_at (s : ByteArray) : headOk s = (weekP s (hq1 s) && headAt s (bx s)) := by
  obtain ⟨h1, h2, h3, h4, h5, h6, h7, h8⟩ := hq_all s
  unfold headOk headB hq10 hq9
  rw [h2, h3, h4, h5, h6, h7, h8]
  unfold headAt
  simp only [List.all_cons, List.all_nil, id]
  exact bools9 _ _ _ _ _ _ _ _ _ _
theorem head_kinds (s : ByteArray) (h : headOk s = true) : ∃ e, Kx s e = 0 ∧ ∀ j, j < e → Kx s j ≠ 0 ∧ Kx s j ≠ 6 := by
  rw [head_at, Bool.and_eq_true] at h
  obtain ⟨hw, ha⟩ := h
  have hwp : weekP s (hq1 s) = if Kx s 0 = 1 then Kx s 1 == 4 && decide (0 ≤ placeP (Tx s 0) weekL 0) else true := by
    have : weekP s (hq1 s) = if Kx s 0 = 1 then (nx s (qAt s 0 0)).2.1 == 4 && decide (0 ≤ placeP (Tx s 0) weekL 0) else true := rfl
    rw [this, nx_q]; rfl
  rw [hwp] at hw
  unfold headAt at ha
  simp only [Bool.and_eq_true] at ha
  obtain ⟨⟨v9, v2, v3, v4, v5, v6, v7, v8⟩, v10⟩ := ha
  have sh : ∀ most j, (shortP most (qAt s j 0)).2 = true → Kx s j = 2 := by
    intro most j hh
    have e : shortP most (qAt s j 0) = ((digitsP (Tx s j)).1, (digitsP (Tx s j)).2 && (Kx s j == 2 && (decide ((Tx s j).size ≤ 2) && decide ((digitsP (Tx s j)).1 ≤ most)))) := rfl
    rw [e] at hh
    simp only [Bool.and_eq_true, beq_iff_eq] at hh
    exact hh.2.1
  have k2 := sh _ _ v2
  have k3 : Kx s (bx s + 1) = 1 := by
    have e : monthP (qAt s (bx s + 1) 0) = if Kx s (bx s + 1) = 1 then (placeP (Tx s (bx s + 1)) monthL 0 + 1, decide (0 ≤ placeP (Tx s (bx s + 1)) monthL 0)) else (0, false) := rfl
    rw [e] at v3
    by_cases c : Kx s (bx s + 1) = 1
    · exact c
    · rw [if_neg c] at v3; exact absurd v3 (by decide)
  have k4 : Kx s (bx s + 2) = 2 := by
    unfold yearP at v4
    simp only [Bool.and_eq_true, beq_iff_eq] at v4
    exact v4.2.2
  have k5 := sh _ _ v5
  have k6 : Kx s (bx s + 4) = 5 := by simpa using v6
  have k7 := sh _ _ v7
  have hsp := second_at s (bx s + 6)
  have hss := seconds_at s (bx s + 6)
  have hz : ∀ i, ((zoneCS s (qAt s i 0)).2.1 == 0) = true → (Kx s i = 0) ∨ ((Kx s i = 3 ∨ Kx s i = 1) ∧ Kx s (i + 1) = 0) := by
    intro i hh
    have hzs : zoneCS s (qAt s i 0) = if Kx s i = 3 ∨ Kx s i = 1 then qAt s (i + 1) 0 else qAt s i 0 := by rw [← nx_q]; rfl
    rw [hzs] at hh
    by_cases c : Kx s i = 3 ∨ Kx s i = 1
    · rw [if_pos c] at hh
      exact .inr ⟨c, eq_of_beq hh⟩
    · rw [if_neg c] at hh
      exact .inl (eq_of_beq hh)
  -- the pieces ahead of the seconds
  have pre : ∀ j, j < bx s + 6 → Kx s j ≠ 0 ∧ Kx s j ≠ 6 := by
    intro j hj
    by_cases c : Kx s 0 = 1
    · have hb : bx s = 2 := by unfold bx; rw [if_pos c]
      rw [if_pos c, Bool.and_eq_true] at hw
      have k1 : Kx s 1 = 4 := by simpa using hw.1
      rw [hb] at k2 k3 k4 k5 k6 k7 hj
      have : j = 0 ∨ j = 1 ∨ j = 2 ∨ j = 3 ∨ j = 4 ∨ j = 5 ∨ j = 6 ∨ j = 7 := by omega
      rcases this with rfl | rfl | rfl | rfl | rfl | rfl | rfl | rfl
      · rw [c]; decide
      · rw [k1]; decide
      · rw [k2]; decide
      · rw [k3]; decide
      · rw [k4]; decide
      · rw [k5]; decide
      · rw [k6]; decide
      · rw [k7]; decide
    · have hb : bx s = 0 := by unfold bx; rw [if_neg c]
      rw [hb] at k2 k3 k4 k5 k6 k7 hj
      have : j = 0 ∨ j = 1 ∨ j = 2 ∨ j = 3 ∨ j = 4 ∨ j = 5 := by omega
      rcases this with rfl | rfl | rfl | rfl | rfl | rfl
      · rw [k2]; decide
      · rw [k3]; decide
      · rw [k4]; decide
      · rw [k5]; decide
      · rw [k6]; decide
      · rw [k7]; decide
  generalize bx s + 6 = c at *
  have fin : ∀ i, (∀ j, j < i → Kx s j ≠ 0 ∧ Kx s j ≠ 6) → ((zoneCS s (qAt s i 0)).2.1 == 0) = true → ∃ e, Kx s e = 0 ∧ ∀ j, j < e → Kx s j ≠ 0 ∧ Kx s j ≠ 6 := by
    intro i hp hh
    rcases hz i hh with h | ⟨h1, h2⟩
    · exact ⟨i, h, hp⟩
    · refine ⟨i + 1, h2, fun j hj => ?_⟩
      by_cases e : j = i
      · subst e
        rcases h1 with h1 | h1 <;> (rw [h1]; decide)
      · exact hp j (by omega)
  by_cases c5 : Kx s c = 5
  · rw [hsp, if_pos c5] at v8
    rw [hss, if_pos c5] at v10
    have k8 := sh _ _ v8
    refine fin _ (fun j hj => ?_) v10
    by_cases e : j = c
    · subst e; rw [c5]; decide
    · by_cases e2 : j = c + 1
      · subst e2; rw [k8]; decide
      · exact pre j (by omega)
  · rw [hss, if_neg c5] at v10
    exact fin _ pre v10
theorem said_ref {s : ByteArray} {l : List S95} (h : Lst s l) (hs : s.size ≤ 1048576) (k : Nat) (hk : s.size + 120 ≤ k) (hlen : l.length ≤ 1048576) :
    ∃ y m d hh mi sec z, postbagref2_said.f k l = some (y, m, d, hh, mi, sec, z, headOk s) ∧ (headOk s = true → y = (yearP (hq4 s)).1 ∧ m = (monthP (hq3 s)).1 ∧ d = (shortP 99 (hq2 s)).1 ∧ hh = (shortP 23 (hq5 s)).1 ∧ mi = (shortP 59 (hq7 s)).1 ∧ sec = (secondP s (hq8 s)).1 ∧ z = (zoneCP (hq9 s)).1) := by
  obtain ⟨h1, h2, h3, h4, h5, h6, h7, h8⟩ := hq_all s
  have hwp : weekP s (hq1 s) = if Kx s 0 = 1 then Kx s 1 == 4 && decide (0 ≤ placeP (Tx s 0) weekL 0) else true := by
    have : weekP s (hq1 s) = if Kx s 0 = 1 then (nx s (qAt s 0 0)).2.1 == 4 && decide (0 ≤ placeP (Tx s 0) weekL 0) else true := rfl
    rw [this, nx_q]; rfl
  have hho := head_at s
  have h9 : hq9 s = secondS s (qAt s (bx s + 6) 0) := by unfold hq9; rw [h8]
  rw [h2, h3, h4, h5, h7, h8, h9]
  obtain ⟨k, rfl⟩ : ∃ m, k = m + 2 := ⟨k - 2, by omega⟩
  have i0 := is_ref h 0 1 (by omega)
  have i1 := is_ref h 1 4 (by omega)
  rw [show kindB 1 = 97 from rfl, show ((0 : Nat) : Int) = 0 from rfl] at i0
  rw [show kindB 4 = 44 from rfl, show ((1 : Nat) : Int) = 1 from rfl] at i1
  unfold postbagref2_said.f
  rw [i0, Option.bind_some]
  by_cases c : Kx s 0 = 1
  · have hb : bx s = 2 := by unfold bx; rw [if_pos c]
    rw [if_pos c] at hwp
    rw [if_pos (by rw [c]; rfl), i1, Option.bind_some]
    have hpl := place_ge (Tx s 0) weekL 0
    have h0 := (h.lt 0).1 (by rw [c]; decide)
    by_cases c4 : Kx s 1 = 4
    · rw [c4, show ((4 : Int) == 4) = true from rfl, Bool.true_and] at hwp
      have hrd := h.rd 0 h0
      rw [show ((0 : Nat) : Int) = 0 from rfl] at hrd
      rw [if_pos (by rw [c4]; rfl), if_pos (by omega), hrd]
      simp only
      rw [show (⟨#[115, 117, 110, 109, 111, 110, 116, 117, 101, 119, 101, 100, 116, 104, 117, 102, 114, 105, 115, 97, 116]⟩ : ByteArray) = lowWeeks from rfl, among_weeks (k + 2) _ (by have := q_text s 0; omega) (by have := q_text s 0; omega), Option.bind_some]
      by_cases cp : 0 ≤ placeP (Tx s 0) weekL 0
      · rw [if_neg (by omega)]
        rw [hwp, decide_eq_true cp, Bool.true_and] at hho
        rw [hho, hb]
        exact said_at h hs k (by omega) hlen 2 (by omega)
      · rw [if_pos (by omega)]
        rw [hwp, decide_eq_false cp, Bool.false_and] at hho
        rw [hho]
        exact ⟨_, _, _, _, _, _, _, rfl, fun hh => absurd hh (by decide)⟩
    · have c4' : (Kx s 1 == 4) = false := by simpa using c4
      rw [c4', Bool.false_and] at hwp
      rw [hwp, Bool.false_and] at hho
      rw [c4', if_neg (by decide), hho]
      exact ⟨_, _, _, _, _, _, _, rfl, fun hh => absurd hh (by decide)⟩
  · have hb : bx s = 0 := by unfold bx; rw [if_neg c]
    have c' : (Kx s 0 == 1) = false := by simpa using c
    rw [if_neg c] at hwp
    rw [hwp, Bool.true_and] at hho
    rw [c', if_neg (by decide), hho, hb]
    exact said_at h hs k (by omega) hlen 0 (by omega)
theorem pcs_len (s : ByteArray) : ∀ (n i : Nat) (l : List S95), pcsP s n i = some l → l.length ≤ n := by
  intro n
  induction n with
  | zero => intro i l h; exact absurd h (by simp [pcsP])
  | succ n ih =>
    intro i l h
    simp only [pcsP] at h
    by_cases c0 : (nextP s i).2.1 = 0
    · rw [if_pos c0] at h
      obtain rfl := Option.some.inj h
      simp
    · rw [if_neg c0] at h
      by_cases c6 : (nextP s i).2.1 = 6
      · rw [if_pos c6] at h; exact absurd h (by simp)
      · rw [if_neg c6] at h
        cases hp : pcsP s n (nextP s i).1 with
        | none => rw [hp] at h; exact absurd h (by simp)
        | some l' =>
          rw [hp] at h
          obtain rfl : (⟨kindB (nextP s i).2.1, (nextP s i).2.2⟩ : S95) :: l' = l := Option.some.inj h
          rw [List.length_cons]
          have := ih _ _ hp
          omega
theorem readHeader_ref (s : ByteArray) (hs : s.size ≤ 1048574) (k : Nat) (hk : 5 * s.size + 200 ≤ k) : postbagref2_ReadHeader.f k s = moment_ReadHeader.f s := by
  unfold postbagref2_ReadHeader.f
  rw [pieces_f s (by omega) k (by omega), Option.bind_some]
  cases hp : pcsP s (s.size + 1) 0 with
  | none =>
    obtain ⟨j, hj, ht⟩ := pcs_none s (s.size + 1) 0 (by omega) (by omega) hp
    have hno : headOk s = false := by
      cases hh : headOk s with
      | false => rfl
      | true =>
        obtain ⟨e, he, hall⟩ := head_kinds s hh
        rcases Nat.lt_or_ge j e with h1 | h1
        · exact absurd hj (hall j h1).2
        · exact absurd he (ht e h1)
    unfold pcsA moment_ReadHeader.f
    simp only
    rw [if_neg (by decide), if_pos (by omega), hno, read_f, toldP_no]
  | some l =>
    obtain ⟨g1, g2⟩ := pcs_get s _ 0 l (by omega) hp
    have hL : Lst s l := ⟨g1, g2⟩
    have hlen := pcs_len s _ _ _ hp
    obtain ⟨y, m, d, hh, mi, sec, z, e, hv⟩ := said_ref hL (by omega) k (by omega) (by omega)
    unfold pcsA moment_ReadHeader.f
    simp only [List.nil_append]
    rw [if_pos trivial, e, Option.bind_some]
    simp only
    rw [told_f k (by omega), Option.bind_some, if_pos (by omega), read_f]
    cases hb : headOk s with
    | false => rw [toldP_no, toldP_no]
    | true =>
      obtain ⟨u1, u2, u3, u4, u5, u6, u7⟩ := hv hb
      rw [u1, u2, u3, u4, u5, u6, u7]
end Go.Proofs.YtjlchnmpebdggaaDoor.Mo
end
section
namespace Go.Proofs.YtjlchnmpebdggaaDoor.Mo
open Go.RowKit Go.Proofs.YtjlchnmpebdggaaDoorW.PrintWords
def largeW : ByteArray := ⟨#[83, 117, 110, 77, 111, 110, 84, 117, 101, 87, 101, 100, 84, 104, 117, 70, 114, 105, 83, 97, 116]⟩
theorem large_week (n : Int) (h1 : 0 ≤ n) (h2 : n ≤ 6) : largeW.extract ((wrap64 (3 * n)) : Int).toNat ((wrap64 ((wrap64 (3 * n)) + 3)) : Int).toNat = weekL.getD n.toNat ⟨#[]⟩ := by
  rw [w64 (3 * n) (by omega) (by omega), w64 (3 * n + 3) (by omega) (by omega)]
  have : n = 0 ∨ n = 1 ∨ n = 2 ∨ n = 3 ∨ n = 4 ∨ n = 5 ∨ n = 6 := by omega
  rcases this with rfl | rfl | rfl | rfl | rfl | rfl | rfl <;> (apply ByteArray.ext; apply Array.toList_inj.1; rfl)
set_option maxHeartbeats 2000000 in
theorem printHeader_ref (k : Nat) (hk : 20000 ≤ k) (y m d h mi s z : Int) : postbagref2_PrintHeader.f k y m d h mi s z = some (printHeaderP y m d h mi s z) := by
  unfold postbagref2_PrintHeader.f printHeaderP
  rw [may_ref k (by omega), Option.bind_some]
  by_cases hr : refuseP y m d h mi s z = 0
  · obtain ⟨hd, hv⟩ := refuse_zero hr
    obtain ⟨a1, a2, a3, a4, a5, a6⟩ := (isDay_iff _ _ _).1 hd
    have ht := ((valid_iff _ _ _ _ _ _ _).1 hv).2
    have hl := length_range y m a3 a4
    have hM := large_month m a3 a4
    unfold largeM at hM
    have hm3 := month_getD_size m a3 a4
    have hwr : 0 ≤ weekP7 y m d h mi s z ∧ weekP7 y m d h mi s z ≤ 6 := by unfold weekP7; split <;> omega
    have hW := large_week (weekP7 y m d h mi s z) hwr.1 hwr.2
    unfold largeW at hW
    have hw3 := week_size (weekP7 y m d h mi s z).toNat (by omega)
    have e1 : (⟨#[44, 32]⟩ : ByteArray).size = 2 := rfl
    have e2 : (⟨#[32]⟩ : ByteArray).size = 1 := rfl
    have hT : headerT y m d h mi s z = weekL.getD (weekP7 y m d h mi s z).toNat ⟨#[]⟩ ++ (⟨#[44, 32]⟩ : ByteArray) ++ plainP d ++ (⟨#[32]⟩ : ByteArray) ++ monthL.getD (m - 1).toNat ⟨#[]⟩ ++ (⟨#[32]⟩ : ByteArray) ++ fourP y ++ (⟨#[32]⟩ : ByteArray) ++ clockP h mi s z := rfl
    have hp := plainP_size d
    have hk4 := clockP_size h mi s z
    have h4 := fourP_size y
    rw [if_pos hr, if_pos hr, week_ref k hk, Option.bind_some, text_one k (by omega) d a5 (by omega), hW, hM, text_four k (by omega) y (by omega) a2, clock_ref k (by omega) y m d h mi s z ht, hT]
    have w1 : wrap64 (3 * m) = 3 * m := w64 _ (by omega) (by omega)
    have w2 : wrap64 (3 * m - 3) = 3 * m - 3 := w64 _ (by omega) (by omega)
    generalize hq : weekP7 y m d h mi s z = q at *
    have w3 : wrap64 (3 * q) = 3 * q := w64 _ (by omega) (by omega)
    have w4 : wrap64 (3 * q + 3) = 3 * q + 3 := w64 _ (by omega) (by omega)
    rw [w1, w2, w3, w4]
    generalize monthL.getD (m - 1).toNat ⟨#[]⟩ = mn at *
    generalize weekL.getD q.toNat ⟨#[]⟩ = wn at *
    generalize clockP h mi s z = ck at *
    generalize fourP y = fy at *
    generalize plainP d = pd at *
    clear hT hM hW
    repeat first
      | rw [Option.bind_some]
      | rw [if_pos (by (try simp only [ByteArray.size_append]); omega)]
  · rw [if_neg hr, if_neg hr]
theorem readHeader_some (s : ByteArray) (hs : s.size ≤ 140737488351232) : ∃ r, moment_ReadHeader.f s = some r := by
  unfold moment_ReadHeader.f
  rw [if_pos hs, read_f]
  exact ⟨_, rfl⟩
theorem header_true (k : Nat) (s : ByteArray) (hs : s.size ≤ 1048574) (hk : 20000 + 5 * s.size ≤ k) (y m d h mi se z : Int) : postbaglaw2_header.f k s y m d h mi se z = some true := by
  unfold postbaglaw2_header.f moment_PrintHeader.f
  rw [readHeader_ref s hs k (by omega)]
  obtain ⟨R, hR⟩ := readHeader_some s (by omega)
  rw [hR, Option.bind_some, Option.bind_some, Option.bind_some, printHeader_ref k (by omega), Option.bind_some]
  generalize printHeaderP y m d h mi se z = Q
  rw [if_pos (by simp)]
  unfold postbaglaw2_num.f
  rw [Option.bind_some, if_pos rfl, if_pos rfl, Option.bind_some]
  simp
theorem headers_true (k : Nat) (s t : ByteArray) (hs : s.size ≤ 1048574) (ht : t.size ≤ 1048574) (hk : 20000 + 5 * s.size + 5 * t.size ≤ k) (y m d h mi se z : Int) : postbaglaw2_MomentHeaders.f k s y m d h mi se z t = some true := by
  unfold postbaglaw2_MomentHeaders.f postbaglaw2_known.f
  rw [Option.bind_some, if_pos rfl, header_true k s hs (by omega), Option.bind_some, if_pos rfl, header_true k t ht (by omega), Option.bind_some, if_pos rfl, Option.bind_some]
end Go.Proofs.YtjlchnmpebdggaaDoor.Mo
end
section
namespace Go.Proofs.YtjlchnmpebdggaaDoor.Pure
open Go.Proofs.YtjlchnmpebdggaaDoor.Mo
theorem MomentHeaders (a : ByteArray) (x : S23) (b : ByteArray) {P Q R : Prop} (_ : P) (_ : Q) (_ : R) (h : a.size + 1 + b.size + 1 ≤ 1048576) : ∃ k, postbaglaw2_MomentHeaders.f k a x.f0 x.f1 x.f2 x.f3 x.f4 x.f5 x.f6 b = some true :=
  ⟨_, headers_true (20000 + 5 * a.size + 5 * b.size) a b (by omega) (by omega) (by omega) _ _ _ _ _ _ _⟩
end Go.Proofs.YtjlchnmpebdggaaDoor.Pure
end
section
namespace Go.Proofs.YtjlchnmpebdggaaDoor.Mo
open Go.ChangeShapes Go.WideShapes Go.ChangeAt Go.RowKit
theorem gLengths : Tryd.prog.globalNamed "postbag/moment.lengths" = some 0 := by kernel_rfl
theorem tLengths : (Tryd.prog.globals[0]?).map (·.type) = some 86 := by kernel_rfl
theorem door_met (os : Os) (args : Array Value) : laidMetH Tryd.prog [("postbag/moment.lengths", Rows.laid_postbag_moment_lengths)] ((World.doorLaid Tryd.prog 400 os).forCall (fun _ _ => 0) ⟨#[], args, []⟩).memory :=
  laidMetH_of_parts3 (fuel := 8) (laidMet_of_run' 8 (by kernel_rfl) (by kernel_rfl)) (by kernel_rfl) (by kernel_rfl)
theorem of_laid {W : World} (h : laidMetH Tryd.prog [("postbag/moment.lengths", Rows.laid_postbag_moment_lengths)] W) : Laid W := by
  rw [MakeChecks.laidMetH_plain _ _ _ (by kernel_rfl)] at h
  obtain ⟨ps, ⟨g1, t1, cs1, f1, p1, q1, hg1, ht1, hv1, hd1, _, _⟩, _, _⟩ := h
  obtain rfl := Option.some.inj (gLengths.symm.trans hg1)
  obtain rfl := Option.some.inj (tLengths.symm.trans ht1)
  obtain ⟨xs, m1, rfl, hx1, hlen, hn3, hel⟩ := DataW.trod_array Tryd.underlying86 hd1
  have c3 : Tryd.prog.cellsOf 3 = 1 := by kernel_rfl
  simp only [Prod.mk.injEq, Rows.laid_postbag_moment_lengths, DataW.agg.injEq] at hx1
  have hcell : ∀ j, j < 12 → W.cell? ⟨0, j, none⟩ = some (.int .i64 (monthDays.getD j 0)) := by
    intro j hj
    have hj1 : j < xs.length := by omega
    have he := hel j hj
    rw [List.getElem?_eq_getElem hj1] at he
    obtain ⟨k, e1, e2, _⟩ := DataW.trod_int Tryd.underlying3 he
    have e3 : (xs.map (·.1))[j]? = some (.lit (.int .i64 k)) := by rw [List.getElem?_map, List.getElem?_eq_getElem hj1, e2]; rfl
    rw [← hx1.1] at e3
    have hk : k = monthDays.getD j 0 := by
      have hc : j = 0 ∨ j = 1 ∨ j = 2 ∨ j = 3 ∨ j = 4 ∨ j = 5 ∨ j = 6 ∨ j = 7 ∨ j = 8 ∨ j = 9 ∨ j = 10 ∨ j = 11 := by omega
      rcases hc with rfl | rfl | rfl | rfl | rfl | rfl | rfl | rfl | rfl | rfl | rfl | rfl <;> (simp at e3; rw [← e3]; rfl)
    rw [World.var?_cell hg1 hv1 j]
    rw [c3, Nat.mul_one] at e1
    have e4 : (cs1.toList.drop j)[0]? = some (.int .i64 k) := by
      have := congrArg (fun l => l[0]?) e1
      simpa [List.getElem?_take] using this
    rw [List.getElem?_drop, Nat.add_zero, Array.getElem?_toList] at e4
    rw [e4, hk]
  refine ⟨?_, hcell⟩
  have := hcell 0 (by omega)
  exact World.block_lt_of_cell? W ⟨0, 0, none⟩ this
end Go.Proofs.YtjlchnmpebdggaaDoor.Mo
end
section
namespace Go.Proofs.YtjlchnmpebdggaaDoor.Mo
section
variable {H : Type} {enc : TypeId × Value → H}
theorem returnsInHanded_of_cond_and {a : Assume} {C : Checked} {os : Os} {f : FuncId} {fn : Func} {s : OpenSpec} {k : (H : Type) → List (DataW H) → Bool} (hk : s.cond = some k) {F : Stop.Interp} {conds : List PathCond} {apart fresh handsOn again : Bool} {X : World → Array Value → Prop}
    (hX : ∀ (w w' : World) (args : Array Value), w.heap = w'.heap → X w args → X w' args)
    (own : ownKnob C.prog.godebug = none) (started : os.Started) (noInit : C.prog.inits.idxOf? f = none) (hfn : C.prog.funcs[f]? = some fn)
    (witness : ∃ (w : World) (tape : Tape) (i : Input), w.os = os ∧ (w.forCall tape i).Shaped C.prog ∧ i.vars = [] ∧ Input.okWide C.prog (w.forCall tape i) .any w.heap.size f i ∧
      ((s.pre enc C.prog fn conds apart (w.forCall tape i).memory i.args ∧ X (w.forCall tape i).memory i.args) ∧ sizedMet enc C.prog fn s apart (w.forCall tape i).memory i.args) ∧ a.holds C.prog (lone (Frame.enter C.prog f i.args .normal) [] (w.forCall tape i)))
    (contract : ∀ (W : World) (base : Nat) (args : Array Value) (ds gs : List (DataW H)) (before : List MemPlace),
      (∀ (j : Nat) t v, fn.params[j]? = some t → args[j]? = some v → Value.okWide C.prog W .any base t v) →
      DataW.Whole enc C.prog fn.params.toList s.vars apart W args.toList ds gs before →
      conds.all (PathCond.test C.prog ⟨fn.params.toList, ds, s.bare.plain.varTypes C.prog, gs⟩) = true → k H (ds ++ gs) = true →
      (DataW.weightsEach C.prog (fn.params.toList ++ s.bare.plain.varTypes C.prog) (ds ++ gs)).all (· ≤ reachBytes) = true → X W args →
      a.holds C.prog (lone (Frame.enter C.prog f args .normal) [] W) →
      Calls C.prog f args W fun e W' => ∃ v, e = .returned v ∧ (s.at F).post enc C.prog fn apart fresh handsOn again W args v W') :
    ReturnsInHanded a C os f .any (fun w args => (s.pre enc C.prog fn conds apart w args ∧ X w args) ∧ sizedMet enc C.prog fn s apart w args) ((s.at F).post enc C.prog fn apart fresh handsOn again) := by
  refine returnsInHanded_of_calls own started noInit witness ?_
  intro w tape i _ _ _ hok hpre hholds
  obtain ⟨_, _, _, fn', hfn', _, _, _, _, hval⟩ := hok
  have e : fn' = fn := Option.some.inj (hfn'.symm.trans hfn)
  subst e
  obtain ⟨⟨hp, hx⟩, hz⟩ := hpre
  obtain ⟨ds, gs, before, hw, hc, hkk⟩ := (OpenSpec.pre_some hk conds apart _ _).1 hp
  have hw' := DataW.Whole.of_heap (w' := w.forCall tape i) (by rfl) hw
  refine (contract (w.forCall tape i) w.heap.size i.args ds gs before hval hw' hc hkk (hz.weights hw) (hX _ _ _ (by rfl) hx) hholds).mono fun e W' ⟨v, he, hp⟩ => ?_
  subst he
  exact ChangeSpec.post_blind hp
theorem witness_cond {C : Checked} {os : Os} {f : FuncId} {fn : Func} {s : OpenSpec} {conds : List PathCond} {apart : Bool} {laid : List (String × DataW Unit)} (modest : Bool) (w0 : World) (args : Array Value) (fuel : Nat) (hos : w0.os = os)
    (hsh : (w0.forCall (fun _ _ => 0) ⟨#[], args, []⟩).Shaped C.prog)
    (hok : Input.okWideB C.prog (w0.forCall (fun _ _ => 0) ⟨#[], args, []⟩) f ⟨#[], args, []⟩ = true)
    {x : List (DataW H) × List (DataW H) × List MemPlace} (hx : DataW.whole enc C.prog (w0.forCall (fun _ _ => 0) ⟨#[], args, []⟩).memory fn.params.toList s.vars apart args.toList fuel = some x)
    (hconds : conds.all (PathCond.test C.prog ⟨fn.params.toList, x.1, s.bare.plain.varTypes C.prog, x.2.1⟩) = true) (hkk : ∀ k, s.cond = some k → k H (x.1 ++ x.2.1) = true)
    (hsz : s.bare.sizedB enc C.prog fn apart (w0.forCall (fun _ _ => 0) ⟨#[], args, []⟩).memory args fuel = true)
    (hl : laidMetH C.prog laid (w0.forCall (fun _ _ => 0) ⟨#[], args, []⟩).memory) :
    ∃ (w : World) (tape : Tape) (i : Input), w.os = os ∧ (w.forCall tape i).Shaped C.prog ∧ i.vars = [] ∧ Input.okWide C.prog (w.forCall tape i) .any w.heap.size f i ∧
      ((s.pre enc C.prog fn conds apart (w.forCall tape i).memory i.args ∧ laidMetH C.prog laid (w.forCall tape i).memory) ∧ sizedMet enc C.prog fn s apart (w.forCall tape i).memory i.args) ∧ ({ modest := modest } : Assume).holds C.prog (lone (Frame.enter C.prog f i.args .normal) [] (w.forCall tape i)) :=
  ⟨w0, fun _ _ => 0, ⟨#[], args, []⟩, hos, hsh, (Input.okWide_of_okWideB (base := 0) hok).1, (Input.okWide_of_okWideB hok).2, OpenSpec.preRow_of_cond fuel hx hconds hkk hsz hl, by
    simp only [Assume.holds]
    exact ⟨by simp, by simp, fun _ => Modest.zero, by simp, by simp⟩⟩
end
end Go.Proofs.YtjlchnmpebdggaaDoor.Mo
end
