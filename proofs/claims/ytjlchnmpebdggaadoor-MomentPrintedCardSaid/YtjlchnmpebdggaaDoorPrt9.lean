import Derived.Test.YtjlchnmpebdggaaDoorPrt6
import Derived.Test.YtjlchnmpebdggaaDoorPrt1
import Derived.Test.YtjlchnmpebdggaaDoorPrt3
import Derived.Test.YtjlchnmpebdggaaDoorPrt7
import Derived.Test.YtjlchnmpebdggaaDoorPrt4
import Derived.Test.YtjlchnmpebdggaaDoorPrt5
import Derived.Test.YtjlchnmpebdggaaDoorPrt8
import Derived.Test.YtjlchnmpebdggaaDoorRows
import Derived.ProofKit
import Derived.LaidMore
import Derived.OpenShut
import Derived.Stop.Joined
section
namespace Go.Proofs.YtjlchnmpebdggaaDoor.Mo
open Go.RowKit Go.Proofs.YtjlchnmpebdggaaDoorW.PrintWords
theorem str_app (l m : List Int) : strOfNums l ++ strOfNums m = strOfNums (l ++ m) := by
  apply ByteArray.ext
  apply Array.toList_inj.1
  rw [ByteArray.data_append, Array.toList_append, strOfNums_data, strOfNums_data, strOfNums_data, List.map_append]
def digP (n : Int) : ByteArray := strOfNums [48 + n]
theorem twoP_dig (n : Int) (h0 : 0 ≤ n) (h1 : n ≤ 99) : twoP n = digP (n / 10) ++ digP (n % 10) := by
  unfold twoP digP
  rw [str_app, Int.tmod_eq_emod_of_nonneg h0, Int.tdiv_eq_ediv_of_nonneg h0, w64 (n / 10) (by omega) (by omega), w64 (48 + n / 10) (by omega) (by omega), w64 (48 + n % 10) (by omega) (by omega), Int.emod_eq_of_lt (by omega) (by omega), Int.emod_eq_of_lt (by omega) (by omega)]
  rfl
end Go.Proofs.YtjlchnmpebdggaaDoor.Mo
end
section
namespace Go.Proofs.YtjlchnmpebdggaaDoor.Mo
open Go.RowKit Go.Proofs.YtjlchnmpebdggaaDoorW.PrintWords
end Go.Proofs.YtjlchnmpebdggaaDoor.Mo
end
section
namespace Go.Proofs.YtjlchnmpebdggaaDoor.Mo
open Go.RowKit Go.Proofs.YtjlchnmpebdggaaDoorW.PrintWords
def toldP (y m d h mi s z : Int) (ok : Bool) : Int × Int × Int × Int × Int × Int × Int × Int :=
  if ok = true then (if isDayB y m d = true then (y, m, d, h, mi, s, z, 0) else (0, 0, 0, 0, 0, 0, 0, 21)) else (0, 0, 0, 0, 0, 0, 0, 20)
theorem read_f (y m d h mi s z : Int) (ok : Bool) : moment_read.f y m d h mi s z ok = some (toldP y m d h mi s z ok) := by
  unfold moment_read.f toldP
  rw [isDay_f, Option.bind_some]
  cases ok <;> cases isDayB y m d <;> rfl
def readDayP (s : ByteArray) : Int × Int × Int × Int × Int × Int × Int × Int :=
  if s.size = 10 ∨ s.size = 11 then
    toldP (dayP (digitsP (s.extract 0 (s.size - 9))).1 (s.extract (s.size - 9) s.size)).1 (dayP (digitsP (s.extract 0 (s.size - 9))).1 (s.extract (s.size - 9) s.size)).2.1
      (dayP (digitsP (s.extract 0 (s.size - 9))).1 (s.extract (s.size - 9) s.size)).2.2.1 0 0 0 0 ((digitsP (s.extract 0 (s.size - 9))).2 && (dayP (digitsP (s.extract 0 (s.size - 9))).1 (s.extract (s.size - 9) s.size)).2.2.2)
  else (0, 0, 0, 0, 0, 0, 0, 20)
theorem readDay_f (k : Nat) (hk : 60 ≤ k) (s : ByteArray) (hs : s.size ≤ 140737488351232) : moment_ReadDay.f k s = some (readDayP s) := by
  obtain ⟨k, rfl⟩ : ∃ q, k = q + 1 := ⟨k - 1, by omega⟩
  have hw : wrap64 ((s.size : Int) - 9) = (s.size : Int) - 9 := w64 _ (by omega) (by omega)
  unfold moment_ReadDay.f readDayP
  rw [hw]
  have hgo : (s.size = 10 ∨ s.size = 11) → moment_ReadDay.j0 (k + 1) s ((s.size : Int) - 9) false = some (toldP (dayP (digitsP (s.extract 0 (s.size - 9))).1 (s.extract (s.size - 9) s.size)).1 (dayP (digitsP (s.extract 0 (s.size - 9))).1 (s.extract (s.size - 9) s.size)).2.1
      (dayP (digitsP (s.extract 0 (s.size - 9))).1 (s.extract (s.size - 9) s.size)).2.2.1 0 0 0 0 ((digitsP (s.extract 0 (s.size - 9))).2 && (dayP (digitsP (s.extract 0 (s.size - 9))).1 (s.extract (s.size - 9) s.size)).2.2.2)) := by
    intro h
    simp only [moment_ReadDay.j0]
    rw [if_neg (by decide), if_pos (by omega), if_pos (by omega), show ((s.size : Int) - 9).toNat = s.size - 9 from by omega, digits_f k (by omega), Option.bind_some]
    generalize digitsP (s.extract 0 (s.size - 9)) = D
    unfold moment_day.f
    rw [Option.bind_some]
    generalize dayP D.1 (s.extract (s.size - 9) s.size) = E
    cases hd : D.2
    · rw [if_neg (by decide), read_f, Option.bind_some, Bool.false_and]
    · rw [if_pos rfl, read_f, Option.bind_some, Bool.true_and]
  by_cases h1 : s.size = 10
  · rw [if_pos (by omega), if_pos (.inl h1)]
    exact hgo (.inl h1)
  · rw [if_neg (by omega)]
    by_cases h2 : s.size = 11
    · rw [if_pos (.inr h2), show (((s.size : Int) - 9) != 2) = false from by rw [bne_eq_false_iff_eq]; omega]
      exact hgo (.inr h2)
    · rw [if_neg (by omega), show (((s.size : Int) - 9) != 2) = true from by rw [bne_iff_ne]; omega]
      simp only [moment_ReadDay.j0]
      rw [if_pos trivial, read_f]
      rfl
end Go.Proofs.YtjlchnmpebdggaaDoor.Mo
end
section
namespace Go.Proofs.YtjlchnmpebdggaaDoor.Mo
open Go.RowKit Go.Proofs.YtjlchnmpebdggaaDoorW.PrintWords
set_option linter.unusedVariables false
def refD (s : ByteArray) : ByteArray := if bt s 0 = 32 then s.extract 1 2 else s.extract 0 2
end Go.Proofs.YtjlchnmpebdggaaDoor.Mo
end
section
namespace Go.Proofs.YtjlchnmpebdggaaDoor.Mo
open Go.RowKit Go.Proofs.YtjlchnmpebdggaaDoorW.PrintWords
theorem refD_dayT (s : ByteArray) (h : s.size = 26) : dayT s = refD s := by
  unfold dayT refD
  have e : bt (s.extract 0 2) 0 = bt s 0 := by
    have h2 : (s.extract 0 2).size = 2 := by rw [ByteArray.size_extract]; omega
    have q1 := at_bt (s.extract 0 2) 0 (by omega)
    have q2 := at_bt s 0 (by omega)
    rw [show ((0 : Nat) : Int) = 0 from rfl] at q1 q2
    rw [← q1, ← q2, ByteArray.getElem_extract]
  have e2 : (s.extract 0 2).extract 1 2 = s.extract 1 2 := by
    rw [ByteArray.extract_extract]
    rfl
  rw [e, e2]
end Go.Proofs.YtjlchnmpebdggaaDoor.Mo
end
section
-- PRINTED by a driver of print.py
namespace Go.Proofs.YtjlchnmpebdggaaDoor.Mo
open Go.RowKit Go.Proofs.YtjlchnmpebdggaaDoorW.PrintWords Go.Proofs.YtjlchnmpebdggaaDoorW.PrintLast Go.Proofs.YtjlchnmpebdggaaDoorW.PrintMore
attribute [local go_sem] max2_int min2_int max_two min_two max_three min_three max_four min_four   -- for this text's walks alone
set_option linter.unusedVariables false
set_option linter.unusedSimpArgs false
end Go.Proofs.YtjlchnmpebdggaaDoor.Mo
end
section
-- PRINTED by a driver of print.py
namespace Go.Proofs.YtjlchnmpebdggaaDoor.Mo
open Go.RowKit Go.Proofs.YtjlchnmpebdggaaDoorW.PrintWords Go.Proofs.YtjlchnmpebdggaaDoorW.PrintLast Go.Proofs.YtjlchnmpebdggaaDoorW.PrintMore
attribute [local go_sem] max2_int min2_int max_two min_two max_three min_three max_four min_four   -- for this text's walks alone
set_option linter.unusedVariables false
set_option linter.unusedSimpArgs false
end Go.Proofs.YtjlchnmpebdggaaDoor.Mo
end
section
-- PRINTED by a driver of print.py
namespace Go.Proofs.YtjlchnmpebdggaaDoor.Mo
open Go.RowKit Go.Proofs.YtjlchnmpebdggaaDoorW.PrintWords Go.Proofs.YtjlchnmpebdggaaDoorW.PrintLast Go.Proofs.YtjlchnmpebdggaaDoorW.PrintMore
attribute [local go_sem] max2_int min2_int max_two min_two max_three min_three max_four min_four   -- for this text's walks alone
set_option linter.unusedVariables false
set_option linter.unusedSimpArgs false
attribute [local go_sem high] eqA23
end Go.Proofs.YtjlchnmpebdggaaDoor.Mo
end
section
-- PRINTED by a driver of print.py
namespace Go.Proofs.YtjlchnmpebdggaaDoor.Mo
open Go.RowKit Go.Proofs.YtjlchnmpebdggaaDoorW.PrintWords Go.Proofs.YtjlchnmpebdggaaDoorW.PrintLast Go.Proofs.YtjlchnmpebdggaaDoorW.PrintMore
attribute [local go_sem] max2_int min2_int max_two min_two max_three min_three max_four min_four   -- for this text's walks alone
set_option linter.unusedVariables false
set_option linter.unusedSimpArgs false
attribute [local go_sem high] eqA23
end Go.Proofs.YtjlchnmpebdggaaDoor.Mo
end
section
namespace Go.Proofs.YtjlchnmpebdggaaDoor.Mo
open Go.RowKit Go.Proofs.YtjlchnmpebdggaaDoorW.PrintWords
theorem plain_ten (d : Int) (h1 : 1 ≤ d) (h2 : d ≤ 99) : (plainP d).size = if d < 10 then 1 else 2 := by
  have hb : bt (twoP d) 0 = 48 + d / 10 := by
    rw [twoP_dig d (by omega) h2]
    unfold digP
    rw [str_app]
    have h9 : d / 10 = 0 ∨ d / 10 = 1 ∨ d / 10 = 2 ∨ d / 10 = 3 ∨ d / 10 = 4 ∨ d / 10 = 5 ∨ d / 10 = 6 ∨ d / 10 = 7 ∨ d / 10 = 8 ∨ d / 10 = 9 := by omega
    rcases h9 with h | h | h | h | h | h | h | h | h | h <;> rw [h] <;> rfl
  have h2s := twoP_size d
  unfold plainP
  rw [hb]
  by_cases hd : d < 10
  · rw [if_pos (by omega), if_pos hd, ByteArray.size_extract, h2s]; rfl
  · rw [if_neg (by omega), if_neg hd, h2s]
end Go.Proofs.YtjlchnmpebdggaaDoor.Mo
end
section
namespace Go.Proofs.YtjlchnmpebdggaaDoor.Mo
open Go.RowKit Go.Proofs.YtjlchnmpebdggaaDoorW.PrintWords
def dgB (x : Int) : UInt8 := UInt8.ofNat (48 + x).toNat
theorem dgB_nat (x : Int) (h0 : 0 ≤ x) (h1 : x ≤ 9) : ((dgB x).toNat : Int) = 48 + x := by
  unfold dgB
  rw [UInt8.toNat_ofNat']
  omega
theorem dgB_dig (x : Int) (h0 : 0 ≤ x) (h1 : x ≤ 9) : isDig (dgB x) = true := (isDig_iff _).2 (by have := dgB_nat x h0 h1; omega)
theorem dstep_dgB (n x : Int) (h0 : 0 ≤ x) (h1 : x ≤ 9) : dstep n (dgB x) = 10 * n + x := by unfold dstep; rw [dgB_nat x h0 h1]; omega
theorem app_list (a b : ByteArray) : (a ++ b).data.toList = a.data.toList ++ b.data.toList := by rw [ByteArray.data_append, Array.toList_append]
theorem two_list (n : Int) (h0 : 0 ≤ n) (h1 : n ≤ 99) : (twoP n).data.toList = [dgB (n / 10), dgB (n % 10)] := by rw [twoP_dig n h0 h1, app_list]; rfl
theorem four_list (n : Int) (h0 : 0 ≤ n) (h1 : n ≤ 9999) : (fourP n).data.toList = [dgB (n / 100 / 10), dgB (n / 100 % 10), dgB (n % 100 / 10), dgB (n % 100 % 10)] := by
  unfold fourP
  rw [Int.tdiv_eq_ediv_of_nonneg h0, Int.tmod_eq_emod_of_nonneg h0, w64 (n / 100) (by omega) (by omega), app_list, two_list _ (by omega) (by omega), two_list _ (by omega) (by omega)]
  rfl
theorem plain_list (d : Int) (h1 : 1 ≤ d) (h2 : d ≤ 99) : (plainP d).data.toList = if d < 10 then [dgB (d % 10)] else [dgB (d / 10), dgB (d % 10)] := by
  have hb : bt (twoP d) 0 = 48 + d / 10 := by
    have := bt_get (twoP d) 0 (by rw [two_list d (by omega) h2]; simp)
    rw [show ((0 : Nat) : Int) = 0 from rfl] at this
    rw [this]
    simp only [two_list d (by omega) h2]
    exact dgB_nat _ (by omega) (by omega)
  unfold plainP
  rw [hb]
  by_cases hd : d < 10
  · rw [if_pos (by omega), if_pos hd, ByteArray.data_extract, Array.toList_extract, List.extract_eq_take_drop, two_list d (by omega) h2]
    rfl
  · rw [if_neg (by omega), if_neg hd, two_list d (by omega) h2]
theorem digits_of (t : ByteArray) (l : List Int) (hl : t.data.toList = l.map dgB) (hr : ∀ x ∈ l, 0 ≤ x ∧ x ≤ 9) (h1 : 1 ≤ l.length) (h4 : l.length ≤ 4) : digitsP t = (l.foldl (fun n x => 10 * n + x) 0, true) := by
  have hs := toList_len t
  rw [hl, List.length_map] at hs
  have ha : t.data.toList.all isDig = true := by
    rw [hl, List.all_map, List.all_eq_true]
    intro x hx
    exact dgB_dig x (hr x hx).1 (hr x hx).2
  have hv : ∀ (l : List Int) (n : Int), (∀ x ∈ l, 0 ≤ x ∧ x ≤ 9) → (l.map dgB).foldl dstep n = l.foldl (fun n x => 10 * n + x) n := by
    intro l
    induction l with
    | nil => intro n _; rfl
    | cons x r ih =>
      intro n hx
      have hx0 := hx x (List.mem_cons_self ..)
      rw [List.map_cons, List.foldl_cons, List.foldl_cons, dstep_dgB n x hx0.1 hx0.2]
      exact ih _ (fun y hy => hx y (List.mem_cons_of_mem _ hy))
  unfold digitsP dval
  rw [if_pos ⟨by omega, by omega, ha⟩, hl, hv l 0 hr]
theorem digits_two (n : Int) (h0 : 0 ≤ n) (h1 : n ≤ 99) : digitsP (twoP n) = (n, true) := by
  rw [digits_of (twoP n) [n / 10, n % 10] (two_list n h0 h1) (by intro x hx; simp at hx; omega) (by simp) (by simp)]
  simp only [List.foldl_cons, List.foldl_nil, Prod.mk.injEq, and_true]
  omega
theorem digits_four (n : Int) (h0 : 0 ≤ n) (h1 : n ≤ 9999) : digitsP (fourP n) = (n, true) := by
  rw [digits_of (fourP n) [n / 100 / 10, n / 100 % 10, n % 100 / 10, n % 100 % 10] (four_list n h0 h1) (by intro x hx; simp at hx; omega) (by simp) (by simp)]
  simp only [List.foldl_cons, List.foldl_nil, Prod.mk.injEq, and_true]
  omega
theorem digits_plain (d : Int) (h1 : 1 ≤ d) (h2 : d ≤ 99) : digitsP (plainP d) = (d, true) := by
  have hp := plain_list d h1 h2
  by_cases hd : d < 10
  · rw [if_pos hd] at hp
    rw [digits_of (plainP d) [d % 10] hp (by intro x hx; simp at hx; omega) (by simp) (by simp)]
    simp only [List.foldl_cons, List.foldl_nil, Prod.mk.injEq, and_true]
    omega
  · rw [if_neg hd] at hp
    rw [digits_of (plainP d) [d / 10, d % 10] hp (by intro x hx; simp at hx; omega) (by simp) (by simp)]
    simp only [List.foldl_cons, List.foldl_nil, Prod.mk.injEq, and_true]
    omega
theorem ext_of {s t : ByteArray} {l : List UInt8} (h : s.data.toList = l) (a b : Nat) (ht : t.data.toList = (l.drop a).take (b - a)) : s.extract a b = t := by
  apply ByteArray.ext
  apply Array.toList_inj.1
  rw [ByteArray.data_extract, Array.toList_extract, List.extract_eq_take_drop, h, ht]
theorem bt_of {s : ByteArray} {l : List UInt8} (h : s.data.toList = l) (i : Nat) (c : UInt8) (hc : l[i]? = some c) : bt s (i : Int) = (c.toNat : Int) := by
  have hlt : i < s.data.toList.length := by rw [h]; exact (List.getElem?_eq_some_iff.1 hc).1
  rw [bt_get s i hlt]
  obtain ⟨hh, he⟩ := List.getElem?_eq_some_iff.1 hc
  simp only [h, he]
theorem size_of {s : ByteArray} {l : List UInt8} (h : s.data.toList = l) : s.size = l.length := by rw [← toList_len, h]
theorem month_facts (n : Nat) (h : n < 12) : ∃ a b c : UInt8, (monthL.getD n ⟨#[]⟩).data.toList = [a, b, c] ∧ ([a, b, c].all isLet = true) ∧ placeP (monthL.getD n ⟨#[]⟩) monthL 0 = n := by
  have : n = 0 ∨ n = 1 ∨ n = 2 ∨ n = 3 ∨ n = 4 ∨ n = 5 ∨ n = 6 ∨ n = 7 ∨ n = 8 ∨ n = 9 ∨ n = 10 ∨ n = 11 := by omega
  rcases this with rfl | rfl | rfl | rfl | rfl | rfl | rfl | rfl | rfl | rfl | rfl | rfl <;> exact ⟨_, _, _, rfl, by decide, by simp only [placeP, monthL, ByteArray.toList_eq]; decide⟩
theorem week_facts (n : Nat) (h : n < 7) : ∃ a b c : UInt8, (weekL.getD n ⟨#[]⟩).data.toList = [a, b, c] ∧ ([a, b, c].all isLet = true) ∧ placeP (weekL.getD n ⟨#[]⟩) weekL 0 = n := by
  have : n = 0 ∨ n = 1 ∨ n = 2 ∨ n = 3 ∨ n = 4 ∨ n = 5 ∨ n = 6 := by omega
  rcases this with rfl | rfl | rfl | rfl | rfl | rfl | rfl <;> exact ⟨_, _, _, rfl, by decide, by simp only [placeP, weekL, ByteArray.toList_eq]; decide⟩
theorem dash_back (d y m : Int) (y1 : 1 ≤ y) (y2 : y ≤ 9999) (m1 : 1 ≤ m) (m2 : m ≤ 12) : dayP d (dashP y m) = (y, m, d, true) := by
  obtain ⟨a, b, c, hl, _, hp⟩ := month_facts (m - 1).toNat (by omega)
  have hf := four_list y (by omega) y2
  have hD : (dashP y m).data.toList = [45, a, b, c, 45, dgB (y / 100 / 10), dgB (y / 100 % 10), dgB (y % 100 / 10), dgB (y % 100 % 10)] := by
    unfold dashP
    rw [app_list, app_list, app_list, hl, hf]
    rfl
  have e1 : (dashP y m).extract 5 9 = fourP y := ext_of hD 5 9 (by rw [hf]; rfl)
  have e2 : (dashP y m).extract 1 4 = monthL.getD (m - 1).toNat ⟨#[]⟩ := ext_of hD 1 4 (by rw [hl]; rfl)
  unfold dayP
  rw [if_pos ⟨size_of hD, bt_of hD 0 45 rfl, bt_of hD 4 45 rfl⟩, e1, e2, digits_four y (by omega) y2, hp]
  have e3 : (((m - 1).toNat : Nat) : Int) + 1 = m := by omega
  rw [e3, decide_eq_true (by omega)]
  rfl
theorem day_back (y m d : Int) (hd : isDayB y m d = true) : readDayP (plainP d ++ dashP y m) = (y, m, d, 0, 0, 0, 0, 0) := by
  obtain ⟨a1, a2, a3, a4, a5, a6⟩ := (isDay_iff _ _ _).1 hd
  have hl := length_range y m a3 a4
  have hp := plainP_size d
  have hs := dashP_size y m a3 a4
  have hz : (plainP d ++ dashP y m).size = (plainP d).size + 9 := by rw [ByteArray.size_append, hs]
  have e1 : (plainP d ++ dashP y m).extract 0 ((plainP d ++ dashP y m).size - 9) = plainP d := by
    refine ext_of (app_list _ _) 0 _ ?_
    rw [List.drop_zero, Nat.sub_zero, hz, Nat.add_sub_cancel, ← toList_len (plainP d), List.take_left]
  have e2 : (plainP d ++ dashP y m).extract ((plainP d ++ dashP y m).size - 9) (plainP d ++ dashP y m).size = dashP y m := by
    refine ext_of (app_list _ _) _ _ ?_
    rw [hz, Nat.add_sub_cancel, ← toList_len (plainP d), List.drop_left, toList_len (plainP d), Nat.add_sub_cancel_left, List.take_of_length_le (by rw [toList_len, hs]; exact Nat.le_refl _)]
  unfold readDayP
  rw [if_pos (by omega), e1, e2, digits_plain d a5 (by omega), dash_back d y m a1 a2 a3 a4]
  unfold toldP
  simp only
  rw [if_pos (by rfl), if_pos hd]
theorem below_two (n most : Int) (h0 : 0 ≤ n) (h1 : n ≤ most) (h2 : most ≤ 99) : belowP (twoP n) most = (n, true) := by
  unfold belowP
  rw [digits_two n h0 (by omega), twoP_size]
  simp only
  rw [decide_eq_true h1]
  rfl
def signB (z : Int) : ByteArray := if z < 0 then ⟨#[45]⟩ else ⟨#[43]⟩
def absZ (z : Int) : Int := if z < 0 then -z else z
theorem clock_open (h mi s z : Int) : clockP h mi s z = clockT h mi s (absZ z) (signB z) := by
  unfold clockP absZ signB
  split <;> rfl
theorem zone_back (z : Int) (h0 : -1439 ≤ z) (h1 : z ≤ 1439) : zoneT (signB z ++ twoP (absZ z / 60) ++ twoP (absZ z % 60)) = (z, true) := by
  have r0 : 0 ≤ absZ z ∧ absZ z ≤ 1439 := by unfold absZ; split <;> omega
  have l1 := two_list (absZ z / 60) (by omega) (by omega)
  have l2 := two_list (absZ z % 60) (by omega) (by omega)
  have hs : (signB z).data.toList = [if z < 0 then 45 else 43] := by unfold signB; split <;> rfl
  have hL : (signB z ++ twoP (absZ z / 60) ++ twoP (absZ z % 60)).data.toList = [if z < 0 then 45 else 43, dgB (absZ z / 60 / 10), dgB (absZ z / 60 % 10), dgB (absZ z % 60 / 10), dgB (absZ z % 60 % 10)] := by
    rw [app_list, app_list, l1, l2, hs]; rfl
  have e1 := ext_of (t := twoP (absZ z / 60)) hL 1 3 (by rw [l1]; rfl)
  have e2 := ext_of (t := twoP (absZ z % 60)) hL 3 5 (by rw [l2]; rfl)
  have hb := bt_of hL 0 _ rfl
  rw [show ((0 : Nat) : Int) = 0 from rfl] at hb
  unfold zoneT
  rw [e1, e2, below_two _ 23 (by omega) (by omega) (by omega), below_two _ 59 (by omega) (by omega) (by omega), hb]
  have hsz := size_of hL
  by_cases hz : z < 0
  · rw [if_pos hz, if_pos ⟨hsz, .inr rfl⟩, if_pos (show (((45 : UInt8).toNat : Nat) : Int) = 45 from rfl)]
    unfold absZ
    rw [if_pos hz]
    simp only [Prod.mk.injEq]
    exact ⟨by omega, rfl⟩
  · rw [if_neg hz, if_pos ⟨hsz, .inl rfl⟩, if_neg (by decide)]
    unfold absZ
    rw [if_neg hz]
    simp only [Prod.mk.injEq]
    exact ⟨by omega, rfl⟩
theorem internal_back (y m d h mi s z : Int) (hv : validB y m d h mi s z = true) : moment_ReadInternal.f (internalT y m d h mi s z) = some (y, m, d, h, mi, s, z, 0) ∧ (internalT y m d h mi s z).size = 26 := by
  obtain ⟨hd, ht⟩ := (valid_iff _ _ _ _ _ _ _).1 hv
  obtain ⟨a1, a2, a3, a4, a5, a6⟩ := (isDay_iff _ _ _).1 hd
  obtain ⟨b1, b2, b3, b4, b5, b6, b7, b8⟩ := (time_iff _ _ _ _).1 ht
  have hlr := length_range y m a3 a4
  obtain ⟨a, b, c, hl, _, hp⟩ := month_facts (m - 1).toNat (by omega)
  have hf := four_list y (by omega) a2
  have r0 : 0 ≤ absZ z ∧ absZ z ≤ 1439 := by unfold absZ; split <;> omega
  have l1 := two_list (absZ z / 60) (by omega) (by omega)
  have l2 := two_list (absZ z % 60) (by omega) (by omega)
  have l3 := two_list h b1 (by omega)
  have l4 := two_list mi b3 (by omega)
  have l5 := two_list s b5 (by omega)
  have hsg : (signB z).data.toList = [if z < 0 then 45 else 43] := by unfold signB; split <;> rfl
  have hpl := plain_list d a5 (by omega)
  have hpt := plain_ten d a5 (by omega)
  obtain ⟨p1, p2, hpad, hp1⟩ : ∃ p1 p2 : UInt8, (padP d).data.toList = [p1, p2] ∧ (if d < 10 then p1 = 32 ∧ (plainP d).data.toList = [p2] else p1.toNat ≠ 32 ∧ (plainP d).data.toList = [p1, p2]) := by
    unfold padP
    by_cases hd10 : d < 10
    · rw [if_pos hd10] at hpl hpt
      rw [if_pos hpt, app_list, hpl]
      exact ⟨32, _, rfl, by rw [if_pos hd10]; exact ⟨rfl, rfl⟩⟩
    · rw [if_neg hd10] at hpl hpt
      rw [if_neg (by omega), hpl]
      have := dgB_nat (d / 10) (by omega) (by omega)
      exact ⟨_, _, rfl, by rw [if_neg hd10]; exact ⟨by omega, rfl⟩⟩
  have hS : (internalT y m d h mi s z).data.toList = [p1, p2, 45, a, b, c, 45, dgB (y / 100 / 10), dgB (y / 100 % 10), dgB (y % 100 / 10), dgB (y % 100 % 10), 32, dgB (h / 10), dgB (h % 10), 58, dgB (mi / 10), dgB (mi % 10), 58, dgB (s / 10), dgB (s % 10), 32, if z < 0 then 45 else 43, dgB (absZ z / 60 / 10), dgB (absZ z / 60 % 10), dgB (absZ z % 60 / 10), dgB (absZ z % 60 % 10)] := by
    unfold internalT
    rw [clock_open]
    unfold clockT dashP
    simp only [app_list, hpad, hl, hf, l1, l2, l3, l4, l5, hsg]
    rfl
  have hsz := size_of hS
  have hform : formI (internalT y m d h mi s z) := ⟨hsz, bt_of hS 11 32 rfl, bt_of hS 14 58 rfl, bt_of hS 17 58 rfl, bt_of hS 20 32 rfl⟩
  have hdash : (dashP y m).data.toList = [45, a, b, c, 45, dgB (y / 100 / 10), dgB (y / 100 % 10), dgB (y % 100 / 10), dgB (y % 100 % 10)] := by
    unfold dashP
    rw [app_list, app_list, app_list, hl, hf]
    rfl
  have hz5 : (signB z ++ twoP (absZ z / 60) ++ twoP (absZ z % 60)).data.toList = [if z < 0 then 45 else 43, dgB (absZ z / 60 / 10), dgB (absZ z / 60 % 10), dgB (absZ z % 60 / 10), dgB (absZ z % 60 % 10)] := by
    rw [app_list, app_list, l1, l2, hsg]; rfl
  have e2 := ext_of (t := dashP y m) hS 2 11 (by rw [hdash]; rfl)
  have e3 := ext_of (t := twoP h) hS 12 14 (by rw [l3]; rfl)
  have e4 := ext_of (t := twoP mi) hS 15 17 (by rw [l4]; rfl)
  have e5 := ext_of (t := twoP s) hS 18 20 (by rw [l5]; rfl)
  have e6 := ext_of (t := signB z ++ twoP (absZ z / 60) ++ twoP (absZ z % 60)) hS 21 26 (by rw [hz5]; rfl)
  have hb0 := bt_of hS 0 p1 rfl
  rw [show ((0 : Nat) : Int) = 0 from rfl] at hb0
  have eD : dayT (internalT y m d h mi s z) = plainP d := by
    rw [refD_dayT _ hsz]
    unfold refD
    rw [hb0]
    by_cases hd10 : d < 10
    · rw [if_pos hd10] at hp1
      rw [if_pos (by rw [hp1.1]; rfl)]
      exact ext_of hS 1 2 (by rw [hp1.2]; rfl)
    · rw [if_neg hd10] at hp1
      rw [if_neg (by omega)]
      exact ext_of hS 0 2 (by rw [hp1.2]; rfl)
  refine ⟨?_, hsz⟩
  unfold moment_ReadInternal.f
  rw [if_pos hform, read_f]
  unfold riOk riY riH riM riS riZ riD
  rw [eD, e2, e3, e4, e5, e6, digits_plain d a5 (by omega), dash_back d y m a1 a2 a3 a4, below_two h 23 b1 b2 (by omega), below_two mi 59 b3 b4 (by omega), below_two s 59 b5 b6 (by omega), zone_back z b7 b8]
  unfold toldP
  simp only
  rw [if_pos (by rfl), if_pos hd]
end Go.Proofs.YtjlchnmpebdggaaDoor.Mo
end
section
namespace Go.Proofs.YtjlchnmpebdggaaDoor.Mo
open Go.RowKit Go.Proofs.YtjlchnmpebdggaaDoorW.PrintWords
theorem take_while_app {p : UInt8 → Bool} : ∀ (q r : List UInt8), q.all p = true → (∀ c r', r = c :: r' → p c = false) → (q ++ r).takeWhile p = q
  | [], [], _, _ => rfl
  | [], c :: r', _, h => by
    have := h c r' rfl
    simp [this]
  | c :: q, r, h, h2 => by
    rw [List.all_cons, Bool.and_eq_true] at h
    rw [List.cons_append, List.takeWhile_cons, if_pos h.1, take_while_app q r h.2 h2]
theorem drop_more {l : List UInt8} {i : Nat} {a b : List UInt8} (h : l.drop i = a ++ b) : l.drop (i + a.length) = b := by
  rw [← List.drop_drop, h, List.drop_left]
theorem blanks_none {c : UInt8} {q : List UInt8} (hb : isBlank c = false) (h40 : c.toNat ≠ 40) : blanksL (c :: q) 0 = 0 := by
  unfold blanksL
  rw [if_neg h40, if_neg (by omega), if_neg (by omega), if_neg (by rw [hb]; simp)]
theorem blanks_one {c : UInt8} {q : List UInt8} (hb : isBlank c = false) (h40 : c.toNat ≠ 40) : blanksL (32 :: c :: q) 0 = 1 := by
  have hb32 : isBlank 32 = true := by decide
  unfold blanksL
  rw [if_neg (by decide), if_neg (by omega), if_neg (by omega), if_pos (.inr hb32), blanks_none hb h40]
theorem next_gen (s : ByteArray) (i : Nat) (sp : List UInt8) (c : UInt8) (p r : List UInt8) (K : Int) (hi : i ≤ s.size) (hsp : sp = [] ∨ sp = [32]) (hd : s.data.toList.drop i = sp ++ (c :: p ++ r))
    (hb : isBlank c = false) (h40 : c.toNat ≠ 40) (hk : ∀ f, s.data.toList.drop f = c :: p ++ r → pieceAt s.data.toList f = (f + (c :: p).length, K)) :
    ∃ j, nextP s i = (j, K, ⟨(c :: p).toArray⟩) ∧ s.data.toList.drop j = r ∧ j ≤ s.size := by
  have hl := toList_len s
  have hlen : sp.length + ((c :: p).length + r.length) = s.data.toList.length - i := by
    have := congrArg List.length hd
    rw [List.length_drop, List.length_append, List.length_append] at this
    omega
  have hc : (c :: p).length = p.length + 1 := List.length_cons
  have hbl : blankP s.data.toList i = i + sp.length := by
    unfold blankP
    rw [hd]
    rcases hsp with rfl | rfl
    · exact congrArg (fun x => i + x) (blanks_none hb h40)
    · exact congrArg (fun x => i + x) (blanks_one hb h40)
  have hdf : s.data.toList.drop (i + sp.length) = c :: p ++ r := drop_more hd
  have hdj : s.data.toList.drop (i + sp.length + (c :: p).length) = r := drop_more hdf
  refine ⟨i + sp.length + (c :: p).length, ?_, hdj, by omega⟩
  unfold nextP
  simp only
  rw [hbl, if_neg (by omega), hk _ hdf]
  simp only [Prod.mk.injEq, true_and]
  apply ByteArray.ext
  apply Array.toList_inj.1
  rw [ByteArray.data_extract, Array.toList_extract, List.extract_eq_take_drop, hdf, show i + sp.length + (c :: p).length - (i + sp.length) = (c :: p).length from by omega, List.take_left]
theorem getD_drop {l : List UInt8} {f : Nat} {c : UInt8} {q : List UInt8} (h : l.drop f = c :: q) : l.getD f 0 = c ∧ l.drop (f + 1) = q := by
  constructor
  · have : (l.drop f)[0]? = some c := by rw [h]; rfl
    rw [List.getElem?_drop, Nat.add_zero] at this
    rw [List.getD_eq_getElem?_getD, this]
    rfl
  · rw [← List.drop_drop, h]; rfl
theorem run_at {P : UInt8 → Bool} {l : List UInt8} {f : Nat} {p r : List UInt8} (h : l.drop f = p ++ r) (hp : p.all P = true) (hr : ∀ c r', r = c :: r' → P c = false) : runP P l f = f + p.length := by
  unfold runP
  rw [h, take_while_app p r hp hr]
theorem piece_let {l : List UInt8} {f : Nat} {c : UInt8} {p r : List UInt8} (h : l.drop f = c :: p ++ r) (hc : isLet c = true) (hp : p.all isLet = true) (hr : ∀ c r', r = c :: r' → isLet c = false) : pieceAt l f = (f + (c :: p).length, 1) := by
  obtain ⟨h1, h2⟩ := getD_drop h
  unfold pieceAt
  simp only
  rw [h1, if_pos hc, run_at h2 hp hr, List.length_cons]
  congr 1
  omega
theorem piece_dig {l : List UInt8} {f : Nat} {c : UInt8} {p r : List UInt8} (h : l.drop f = c :: p ++ r) (hc : isLet c = false) (hc2 : isDig c = true) (hp : p.all isDig = true) (hr : ∀ c r', r = c :: r' → isDig c = false) : pieceAt l f = (f + (c :: p).length, 2) := by
  obtain ⟨h1, h2⟩ := getD_drop h
  unfold pieceAt
  simp only
  rw [h1, if_neg (by rw [hc]; decide), if_pos hc2, run_at h2 hp hr, List.length_cons]
  congr 1
  omega
theorem piece_sign {l : List UInt8} {f : Nat} {c : UInt8} {p r : List UInt8} (h : l.drop f = c :: p ++ r) (hc : c = 43 ∨ c = 45) (hp : p.all isDig = true) (hp1 : 1 ≤ p.length) (hr : ∀ c r', r = c :: r' → isDig c = false) : pieceAt l f = (f + (c :: p).length, 3) := by
  obtain ⟨h1, h2⟩ := getD_drop h
  have n1 : isLet c = false ∧ isDig c = false ∧ (c.toNat = 43 ∨ c.toNat = 45) := by rcases hc with rfl | rfl <;> decide
  unfold pieceAt
  simp only
  rw [h1, if_neg (by rw [n1.1]; decide), if_neg (by rw [n1.2.1]; decide), if_pos n1.2.2, run_at h2 hp hr, if_pos (by omega), List.length_cons]
  congr 1
  omega
theorem piece_comma {l : List UInt8} {f : Nat} {r : List UInt8} (h : l.drop f = 44 :: [] ++ r) : pieceAt l f = (f + [(44 : UInt8)].length, 4) := by
  obtain ⟨h1, _⟩ := getD_drop h
  unfold pieceAt
  simp only
  rw [h1, if_neg (by decide), if_neg (by decide), if_neg (by decide), if_pos (by decide)]
  rfl
theorem piece_colon {l : List UInt8} {f : Nat} {r : List UInt8} (h : l.drop f = 58 :: [] ++ r) : pieceAt l f = (f + [(58 : UInt8)].length, 5) := by
  obtain ⟨h1, _⟩ := getD_drop h
  unfold pieceAt
  simp only
  rw [h1, if_neg (by decide), if_neg (by decide), if_neg (by decide), if_neg (by decide), if_pos (by decide)]
  rfl
theorem next_end (s : ByteArray) (i : Nat) (hi : i ≤ s.size) (hd : s.data.toList.drop i = []) : nextP s i = (i, 0, ⟨#[]⟩) := by
  have hl := toList_len s
  have h1 : s.data.toList.length ≤ i := by
    have := congrArg List.length hd
    rw [List.length_drop, List.length_nil] at this
    omega
  have hbl : blankP s.data.toList i = i := by unfold blankP; rw [hd]; rfl
  unfold nextP
  simp only
  rw [hbl, if_pos (by omega)]
theorem let_facts {c : UInt8} (h : isLet c = true) : isBlank c = false ∧ c.toNat ≠ 40 ∧ isDig c = false := by
  unfold isLet at h
  simp only [Bool.or_eq_true, Bool.and_eq_true, decide_eq_true_eq] at h
  refine ⟨?_, by omega, ?_⟩
  · unfold isBlank
    simp only [Bool.or_eq_false_iff, beq_eq_false_iff_ne]
    omega
  · unfold isDig
    simp only [Bool.and_eq_false_iff, decide_eq_false_iff_not]
    omega
theorem dig_facts {c : UInt8} (h : isDig c = true) : isBlank c = false ∧ c.toNat ≠ 40 ∧ isLet c = false := by
  have := (isDig_iff c).1 h
  refine ⟨?_, by omega, ?_⟩
  · unfold isBlank
    simp only [Bool.or_eq_false_iff, beq_eq_false_iff_ne]
    omega
  · unfold isLet
    simp only [Bool.or_eq_false_iff, Bool.and_eq_false_iff, decide_eq_false_iff_not]
    omega
theorem text_eq {t : ByteArray} {l : List UInt8} (h : t.data.toList = l) : (⟨l.toArray⟩ : ByteArray) = t := by
  apply ByteArray.ext
  apply Array.toList_inj.1
  rw [h]
theorem n_let (s : ByteArray) (i : Nat) (sp : List UInt8) (t : ByteArray) (c : UInt8) (p r : List UInt8) (hi : i ≤ s.size) (hsp : sp = [] ∨ sp = [32]) (ht : t.data.toList = c :: p) (hd : s.data.toList.drop i = sp ++ (c :: p ++ r)) (ha : (c :: p).all isLet = true) (hr : ∀ c r', r = c :: r' → isLet c = false) :
    ∃ j, nextP s i = (j, 1, t) ∧ s.data.toList.drop j = r ∧ j ≤ s.size := by
  rw [List.all_cons, Bool.and_eq_true] at ha
  have := next_gen s i sp c p r 1 hi hsp hd (let_facts ha.1).1 (let_facts ha.1).2.1 (fun f h => piece_let h ha.1 ha.2 hr)
  rwa [text_eq ht] at this
theorem n_dig (s : ByteArray) (i : Nat) (sp : List UInt8) (t : ByteArray) (c : UInt8) (p r : List UInt8) (hi : i ≤ s.size) (hsp : sp = [] ∨ sp = [32]) (ht : t.data.toList = c :: p) (hd : s.data.toList.drop i = sp ++ (c :: p ++ r)) (ha : (c :: p).all isDig = true) (hr : ∀ c r', r = c :: r' → isDig c = false) :
    ∃ j, nextP s i = (j, 2, t) ∧ s.data.toList.drop j = r ∧ j ≤ s.size := by
  rw [List.all_cons, Bool.and_eq_true] at ha
  have := next_gen s i sp c p r 2 hi hsp hd (dig_facts ha.1).1 (dig_facts ha.1).2.1 (fun f h => piece_dig h (dig_facts ha.1).2.2 ha.1 ha.2 hr)
  rwa [text_eq ht] at this
theorem n_colon (s : ByteArray) (i : Nat) (r : List UInt8) (hi : i ≤ s.size) (hd : s.data.toList.drop i = 58 :: r) : ∃ j, nextP s i = (j, 5, ⟨#[58]⟩) ∧ s.data.toList.drop j = r ∧ j ≤ s.size :=
  next_gen s i [] 58 [] r 5 hi (.inl rfl) hd (by decide) (by decide) (fun _ h => piece_colon h)
theorem n_comma (s : ByteArray) (i : Nat) (r : List UInt8) (hi : i ≤ s.size) (hd : s.data.toList.drop i = 44 :: r) : ∃ j, nextP s i = (j, 4, ⟨#[44]⟩) ∧ s.data.toList.drop j = r ∧ j ≤ s.size :=
  next_gen s i [] 44 [] r 4 hi (.inl rfl) hd (by decide) (by decide) (fun _ h => piece_comma h)
theorem n_sign (s : ByteArray) (i : Nat) (t : ByteArray) (c : UInt8) (p r : List UInt8) (hi : i ≤ s.size) (ht : t.data.toList = c :: p) (hd : s.data.toList.drop i = [32] ++ (c :: p ++ r)) (hc : c = 43 ∨ c = 45) (ha : p.all isDig = true) (hp1 : 1 ≤ p.length) (hr : ∀ c r', r = c :: r' → isDig c = false) :
    ∃ j, nextP s i = (j, 3, t) ∧ s.data.toList.drop j = r ∧ j ≤ s.size := by
  have n1 : isBlank c = false ∧ c.toNat ≠ 40 := by rcases hc with rfl | rfl <;> decide
  have := next_gen s i [32] c p r 3 hi (.inr rfl) hd n1.1 n1.2 (fun f h => piece_sign h hc ha hp1 hr)
  rwa [text_eq ht] at this
theorem head_not {P : UInt8 → Bool} {a : UInt8} {q : List UInt8} (h : P a = false) : ∀ c r', a :: q = c :: r' → P c = false := by
  intro c r' e
  injection e with e1 _
  rw [← e1]
  exact h
theorem header_back (y m d h mi s z : Int) (hv : validB y m d h mi s z = true) : moment_ReadHeader.f (headerT y m d h mi s z) = some (y, m, d, h, mi, s, z, 0) := by
  obtain ⟨hd, ht⟩ := (valid_iff _ _ _ _ _ _ _).1 hv
  obtain ⟨a1, a2, a3, a4, a5, a6⟩ := (isDay_iff _ _ _).1 hd
  obtain ⟨b1, b2, b3, b4, b5, b6, b7, b8⟩ := (time_iff _ _ _ _).1 ht
  have hlr := length_range y m a3 a4
  have hwr : 0 ≤ weekP7 y m d h mi s z ∧ weekP7 y m d h mi s z ≤ 6 := by unfold weekP7; split <;> omega
  obtain ⟨wa, wb, wc, hw, hwl, hwp⟩ := week_facts (weekP7 y m d h mi s z).toNat (by omega)
  obtain ⟨ma, mb, mc, hm, hml, hmp⟩ := month_facts (m - 1).toNat (by omega)
  have r0 : 0 ≤ absZ z ∧ absZ z ≤ 1439 := by unfold absZ; split <;> omega
  have l1 := two_list (absZ z / 60) (by omega) (by omega)
  have l2 := two_list (absZ z % 60) (by omega) (by omega)
  have l3 := two_list h b1 (by omega)
  have l4 := two_list mi b3 (by omega)
  have l5 := two_list s b5 (by omega)
  have l6 := four_list y (by omega) a2
  have hsg : (signB z).data.toList = [if z < 0 then 45 else 43] := by unfold signB; split <;> rfl
  obtain ⟨dc, dp, hpl, hpd⟩ : ∃ (dc : UInt8) (dp : List UInt8), (plainP d).data.toList = dc :: dp ∧ (dc :: dp).all isDig = true := by
    have hpl := plain_list d a5 (by omega)
    by_cases h10 : d < 10
    · rw [if_pos h10] at hpl
      exact ⟨_, _, hpl, by simp only [List.all_cons, List.all_nil, Bool.and_true]; exact dgB_dig _ (by omega) (by omega)⟩
    · rw [if_neg h10] at hpl
      exact ⟨_, _, hpl, by simp only [List.all_cons, List.all_nil, Bool.and_true, Bool.and_eq_true]; exact ⟨dgB_dig _ (by omega) (by omega), dgB_dig _ (by omega) (by omega)⟩⟩
  have hz5 : (signB z ++ twoP (absZ z / 60) ++ twoP (absZ z % 60)).data.toList = (if z < 0 then 45 else 43) :: [dgB (absZ z / 60 / 10), dgB (absZ z / 60 % 10), dgB (absZ z % 60 / 10), dgB (absZ z % 60 % 10)] := by
    rw [app_list, app_list, l1, l2, hsg]; rfl
  have hS : (headerT y m d h mi s z).data.toList = wa :: [wb, wc] ++ (44 :: ([32] ++ (dc :: dp ++ ([32] ++ (ma :: [mb, mc] ++ ([32] ++ (dgB (y / 100 / 10) :: [dgB (y / 100 % 10), dgB (y % 100 / 10), dgB (y % 100 % 10)] ++ ([32] ++ (dgB (h / 10) :: [dgB (h % 10)] ++ (58 :: (dgB (mi / 10) :: [dgB (mi % 10)] ++ (58 :: (dgB (s / 10) :: [dgB (s % 10)] ++ ([32] ++ ((if z < 0 then 45 else 43) :: [dgB (absZ z / 60 / 10), dgB (absZ z / 60 % 10), dgB (absZ z % 60 / 10), dgB (absZ z % 60 % 10)] ++ []))))))))))))))) := by
    unfold headerT
    rw [clock_open]
    unfold clockT
    simp only [app_list, hw, hm, l1, l2, l3, l4, l5, l6, hsg, hpl]
    simp
  have hsize : (headerT y m d h mi s z).size ≤ 140737488351232 := by
    have hp := plainP_size d
    have h1 := week_size (weekP7 y m d h mi s z).toNat (by omega)
    have h2 := month_size (m - 1).toNat (by omega)
    have h3 := fourP_size y
    have h4 := clockP_size h mi s z
    have e1 : (⟨#[44, 32]⟩ : ByteArray).size = 2 := rfl
    have e2 : (⟨#[32]⟩ : ByteArray).size = 1 := rfl
    unfold headerT
    simp only [ByteArray.size_append]
    omega
  generalize hT : headerT y m d h mi s z = T at *
  clear hT
  have d9 : ∀ x : Int, 0 ≤ x → x ≤ 9 → isDig (dgB x) = true := dgB_dig
  have q58 : isDig 58 = false := by decide
  have q32 : isDig 32 = false := by decide
  obtain ⟨i1, e1, D1, s1⟩ := n_let T 0 [] (weekL.getD (weekP7 y m d h mi s z).toNat ⟨#[]⟩) wa [wb, wc] _ (by omega) (.inl rfl) hw hS hwl (head_not (by decide))
  obtain ⟨i2, e2, D2, s2⟩ := n_comma T i1 _ s1 D1
  obtain ⟨i3, e3, D3, s3⟩ := n_dig T i2 [32] (plainP d) dc dp _ s2 (.inr rfl) hpl D2 hpd (head_not q32)
  obtain ⟨i4, e4, D4, s4⟩ := n_let T i3 [32] (monthL.getD (m - 1).toNat ⟨#[]⟩) ma [mb, mc] _ s3 (.inr rfl) hm D3 hml (head_not (by decide))
  obtain ⟨i5, e5, D5, s5⟩ := n_dig T i4 [32] (fourP y) _ _ _ s4 (.inr rfl) l6 D4 (by simp only [List.all_cons, List.all_nil, Bool.and_true, Bool.and_eq_true]; exact ⟨d9 _ (by omega) (by omega), d9 _ (by omega) (by omega), d9 _ (by omega) (by omega), d9 _ (by omega) (by omega)⟩) (head_not q32)
  obtain ⟨i6, e6, D6, s6⟩ := n_dig T i5 [32] (twoP h) _ _ _ s5 (.inr rfl) l3 D5 (by simp only [List.all_cons, List.all_nil, Bool.and_true, Bool.and_eq_true]; exact ⟨d9 _ (by omega) (by omega), d9 _ (by omega) (by omega)⟩) (head_not q58)
  obtain ⟨i7, e7, D7, s7⟩ := n_colon T i6 _ s6 D6
  obtain ⟨i8, e8, D8, s8⟩ := n_dig T i7 [] (twoP mi) _ _ _ s7 (.inl rfl) l4 D7 (by simp only [List.all_cons, List.all_nil, Bool.and_true, Bool.and_eq_true]; exact ⟨d9 _ (by omega) (by omega), d9 _ (by omega) (by omega)⟩) (head_not q58)
  obtain ⟨i9, e9, D9, s9⟩ := n_colon T i8 _ s8 D8
  obtain ⟨i10, e10, D10, s10⟩ := n_dig T i9 [] (twoP s) _ _ _ s9 (.inl rfl) l5 D9 (by simp only [List.all_cons, List.all_nil, Bool.and_true, Bool.and_eq_true]; exact ⟨d9 _ (by omega) (by omega), d9 _ (by omega) (by omega)⟩) (head_not q32)
  obtain ⟨i11, e11, D11, s11⟩ := n_sign T i10 (signB z ++ twoP (absZ z / 60) ++ twoP (absZ z % 60)) _ _ [] s10 hz5 D10 (by split <;> simp) (by simp only [List.all_cons, List.all_nil, Bool.and_true, Bool.and_eq_true]; exact ⟨d9 _ (by omega) (by omega), d9 _ (by omega) (by omega), d9 _ (by omega) (by omega), d9 _ (by omega) (by omega)⟩) (by simp) (fun _ _ e => by cases e)
  have e12 := next_end T i11 s11 D11
  have q1 : hq1 T = (i1, 1, weekL.getD (weekP7 y m d h mi s z).toNat ⟨#[]⟩) := e1
  have n1 : nx T (hq1 T) = (i2, 4, ⟨#[44]⟩) := by rw [q1]; exact e2
  have q2 : hq2 T = (i3, 2, plainP d) := by unfold hq2 weekS; rw [if_pos (by rw [q1]), n1]; exact e3
  have q3 : hq3 T = (i4, 1, monthL.getD (m - 1).toNat ⟨#[]⟩) := by unfold hq3; rw [q2]; exact e4
  have q4 : hq4 T = (i5, 2, fourP y) := by unfold hq4; rw [q3]; exact e5
  have q5 : hq5 T = (i6, 2, twoP h) := by unfold hq5; rw [q4]; exact e6
  have q6 : hq6 T = (i7, 5, ⟨#[58]⟩) := by unfold hq6; rw [q5]; exact e7
  have q7 : hq7 T = (i8, 2, twoP mi) := by unfold hq7; rw [q6]; exact e8
  have q8 : hq8 T = (i9, 5, ⟨#[58]⟩) := by unfold hq8; rw [q7]; exact e9
  have n8 : nx T (hq8 T) = (i10, 2, twoP s) := by rw [q8]; exact e10
  have q9 : hq9 T = (i11, 3, signB z ++ twoP (absZ z / 60) ++ twoP (absZ z % 60)) := by unfold hq9 secondS; rw [if_pos (by rw [q8]), n8]; exact e11
  have q10 : hq10 T = (i11, 0, ⟨#[]⟩) := by unfold hq10 zoneCS; rw [if_pos (by rw [q9]; exact .inl rfl), q9]; exact e12
  have v1 : weekP T (hq1 T) = true := by unfold weekP; rw [if_pos (by rw [q1]), n1, q1]; simp only; rw [hwp, decide_eq_true (by omega)]; rfl
  have sh : ∀ (j : Nat) (t : ByteArray) (n most : Int), digitsP t = (n, true) → t.size ≤ 2 → n ≤ most → shortP most (j, 2, t) = (n, true) := by
    intro j t n most h1 h2 h3
    unfold shortP
    simp only [h1]
    rw [decide_eq_true h2, decide_eq_true h3]
    rfl
  have v2 : shortP 99 (hq2 T) = (d, true) := by rw [q2]; exact sh _ _ _ _ (digits_plain d a5 (by omega)) (by have := plainP_size d; omega) (by omega)
  have v3 : monthP (hq3 T) = (m, true) := by
    unfold monthP
    rw [if_pos (by rw [q3]), q3]
    simp only
    rw [hmp, decide_eq_true (by omega)]
    simp only [Prod.mk.injEq, and_true]
    omega
  have v4 : yearP (hq4 T) = (y, true) := by
    unfold yearP
    rw [q4]
    simp only [digits_four y (by omega) a2, fourP_size]
    simp
  have v5 : shortP 23 (hq5 T) = (h, true) := by rw [q5]; exact sh _ _ _ _ (digits_two h b1 (by omega)) (by rw [twoP_size]; exact Nat.le_refl _) b2
  have v7 : shortP 59 (hq7 T) = (mi, true) := by rw [q7]; exact sh _ _ _ _ (digits_two mi b3 (by omega)) (by rw [twoP_size]; exact Nat.le_refl _) b4
  have v8 : secondP T (hq8 T) = (s, true) := by
    have := sh i10 (twoP s) s 60 (digits_two s b5 (by omega)) (by rw [twoP_size]; exact Nat.le_refl _) (by omega)
    unfold secondP
    rw [if_pos (by rw [q8]), n8, this]
    simp only
    rw [if_neg (by omega)]
  have v9 : zoneCP (hq9 T) = (z, true) := by unfold zoneCP; rw [if_pos (by rw [q9]), q9]; exact zone_back z b7 b8
  have hok : headOk T = true := by
    unfold headOk headB
    rw [v1, v2, v3, v4, v5, v7, v8, v9, q6, q10]
    rfl
  unfold moment_ReadHeader.f
  rw [if_pos hsize, v4, v3, v2, v5, v7, v8, v9, hok, read_f]
  unfold toldP
  simp only
  rw [if_pos (by first | rfl | trivial), if_pos hd]
end Go.Proofs.YtjlchnmpebdggaaDoor.Mo
end
section
-- PRINTED by a driver of print.py
namespace Go.Proofs.YtjlchnmpebdggaaDoor.Mo
open Go.RowKit Go.Proofs.YtjlchnmpebdggaaDoorW.PrintWords Go.Proofs.YtjlchnmpebdggaaDoorW.PrintLast Go.Proofs.YtjlchnmpebdggaaDoorW.PrintMore
attribute [local go_sem] max2_int min2_int max_two min_two max_three min_three max_four min_four   -- for this text's walks alone
set_option linter.unusedVariables false
set_option linter.unusedSimpArgs false
end Go.Proofs.YtjlchnmpebdggaaDoor.Mo
end
section
-- PRINTED by a driver of print.py
namespace Go.Proofs.YtjlchnmpebdggaaDoor.Mo
open Go.RowKit Go.Proofs.YtjlchnmpebdggaaDoorW.PrintWords Go.Proofs.YtjlchnmpebdggaaDoorW.PrintLast Go.Proofs.YtjlchnmpebdggaaDoorW.PrintMore
attribute [local go_sem] max2_int min2_int max_two min_two max_three min_three max_four min_four   -- for this text's walks alone
set_option linter.unusedVariables false
set_option linter.unusedSimpArgs false
attribute [local go_sem high] eqA23
end Go.Proofs.YtjlchnmpebdggaaDoor.Mo
end
section
-- PRINTED by a driver of print.py
namespace Go.Proofs.YtjlchnmpebdggaaDoor.Mo
open Go.RowKit Go.Proofs.YtjlchnmpebdggaaDoorW.PrintWords Go.Proofs.YtjlchnmpebdggaaDoorW.PrintLast Go.Proofs.YtjlchnmpebdggaaDoorW.PrintMore
attribute [local go_sem] max2_int min2_int max_two min_two max_three min_three max_four min_four   -- for this text's walks alone
set_option linter.unusedVariables false
set_option linter.unusedSimpArgs false
end Go.Proofs.YtjlchnmpebdggaaDoor.Mo
end
section
namespace Go.Proofs.YtjlchnmpebdggaaDoor.Mo
open Go.RowKit Go.Proofs.YtjlchnmpebdggaaDoorW.PrintWords
def printDayP (y m d : Int) : ByteArray × Int := if isDayB y m d = true then (plainP d ++ dashP y m, 0) else (⟨#[]⟩, 21)
theorem printDay_f (y m d h mi s z : Int) : moment_PrintDay.f y m d h mi s z = some (printDayP y m d) := by
  unfold moment_PrintDay.f printDayP
  rw [isDay_f, Option.bind_some]
  by_cases hd : isDayB y m d = true
  · obtain ⟨a1, a2, a3, a4, a5, a6⟩ := (isDay_iff _ _ _).1 hd
    have hp := plainP_size d
    have hs := dashP_size y m a3 a4
    rw [if_pos hd, if_pos hd, plain_f, Option.bind_some]
    unfold moment_dashed.f
    rw [if_pos ⟨a3, a4⟩, Option.bind_some, if_pos (by omega)]
  · rw [if_neg hd, if_neg hd]
end Go.Proofs.YtjlchnmpebdggaaDoor.Mo
end
section
namespace Go.Proofs.YtjlchnmpebdggaaDoor.Mo
open Go.RowKit Go.Proofs.YtjlchnmpebdggaaDoorW.PrintWords
theorem empty_list : (⟨#[]⟩ : ByteArray).toList = [] := by rw [ByteArray.toList_eq]
theorem refuse_cases (y m d h mi s z : Int) : (isDayB y m d = false ∧ validB y m d h mi s z = false ∧ refuseP y m d h mi s z = 21) ∨ (isDayB y m d = true ∧ validB y m d h mi s z = false ∧ refuseP y m d h mi s z = 20) ∨ (isDayB y m d = true ∧ validB y m d h mi s z = true ∧ refuseP y m d h mi s z = 0) := by
  have hv : validB y m d h mi s z = (isDayB y m d && timeB h mi s z) := rfl
  unfold refuseP
  rw [hv]
  cases isDayB y m d <;> cases timeB h mi s z <;> simp
theorem printed_true (y m d h mi s z : Int) : postbaglaw2_MomentPrinted.f 100 y m d h mi s z = some true := by
  unfold postbaglaw2_MomentPrinted.f postbaglaw2_known.f moment_PrintInternal.f moment_PrintHeader.f
  rw [Option.bind_some, if_pos rfl, Option.bind_some, Option.bind_some, printDay_f, Option.bind_some, valid_f, Option.bind_some]
  rcases refuse_cases y m d h mi s z with ⟨hd, hv, hr⟩ | ⟨hd, hv, hr⟩ | ⟨hd, hv, hr⟩
  · have eI : printInternalP y m d h mi s z = (⟨#[]⟩, 21) := by unfold printInternalP; rw [hr]; exact if_neg (by decide)
    have eH : printHeaderP y m d h mi s z = (⟨#[]⟩, 21) := by unfold printHeaderP; rw [hr]; exact if_neg (by decide)
    have eD : printDayP y m d = (⟨#[]⟩, 21) := by unfold printDayP; rw [hd]; exact if_neg (by decide)
    rw [eI, eH, eD, hv]
    dsimp only
    rw [if_pos rfl, if_neg (by decide)]
    simp only [postbaglaw2_MomentPrinted.j0]
    rw [if_neg (by decide), if_neg (by decide)]
    simp only [postbaglaw2_MomentPrinted.j1]
    rw [if_neg (by decide), if_pos empty_list, empty_list]
    rfl
  · have hday := day_back y m d hd
    have hpl := plainP_size d
    obtain ⟨a1, a2, a3, a4, a5, a6⟩ := (isDay_iff _ _ _).1 hd
    have hs := dashP_size y m a3 a4
    have eI : printInternalP y m d h mi s z = (⟨#[]⟩, 20) := by unfold printInternalP; rw [hr]; exact if_neg (by decide)
    have eH : printHeaderP y m d h mi s z = (⟨#[]⟩, 20) := by unfold printHeaderP; rw [hr]; exact if_neg (by decide)
    have eD : printDayP y m d = (plainP d ++ dashP y m, 0) := by unfold printDayP; rw [hd]; exact if_pos rfl
    rw [eI, eH, eD, hv]
    dsimp only
    rw [if_pos rfl, if_neg (by decide)]
    simp only [postbaglaw2_MomentPrinted.j0]
    rw [if_neg (by decide), if_pos trivial, readDay_f 99 (by decide) _ (by rw [ByteArray.size_append]; omega), hday, Option.bind_some]
    dsimp only
    rw [if_pos rfl, if_neg (by simp)]
    simp only [postbaglaw2_MomentPrinted.j1]
    rw [if_neg (by decide), if_pos empty_list, empty_list]
    rfl
  · have hday := day_back y m d hd
    have hpl := plainP_size d
    obtain ⟨a1, a2, a3, a4, a5, a6⟩ := (isDay_iff _ _ _).1 hd
    have hs := dashP_size y m a3 a4
    obtain ⟨hi, h26⟩ := internal_back y m d h mi s z hv
    have hh := header_back y m d h mi s z hv
    have eI : printInternalP y m d h mi s z = (internalT y m d h mi s z, 0) := by unfold printInternalP; rw [hr]; exact if_pos rfl
    have eH : printHeaderP y m d h mi s z = (headerT y m d h mi s z, 0) := by unfold printHeaderP; rw [hr]; exact if_pos rfl
    have eD : printDayP y m d = (plainP d ++ dashP y m, 0) := by unfold printDayP; rw [hd]; exact if_pos rfl
    rw [eI, eH, eD, hv]
    dsimp only
    rw [if_pos rfl, if_neg (by decide)]
    simp only [postbaglaw2_MomentPrinted.j0]
    rw [if_neg (by decide), if_pos trivial, readDay_f 99 (by decide) _ (by rw [ByteArray.size_append]; omega), hday, Option.bind_some]
    dsimp only
    rw [if_pos rfl, if_neg (by simp)]
    simp only [postbaglaw2_MomentPrinted.j1]
    rw [if_pos trivial, hi, Option.bind_some, hh, Option.bind_some]
    dsimp only
    rw [if_pos rfl, if_pos rfl, if_pos (by simp), if_pos (by simp), h26]
    rfl
end Go.Proofs.YtjlchnmpebdggaaDoor.Mo
end
section
namespace Go.Proofs.YtjlchnmpebdggaaDoor.Pure
open Go.Proofs.YtjlchnmpebdggaaDoor.Mo
theorem MomentPrinted (x : S23) {P : Prop} (_ : P) : ∃ k, postbaglaw2_MomentPrinted.f k x.f0 x.f1 x.f2 x.f3 x.f4 x.f5 x.f6 = some true :=
  ⟨100, printed_true _ _ _ _ _ _ _⟩
end Go.Proofs.YtjlchnmpebdggaaDoor.Pure
end
section
namespace Go.Proofs.YtjlchnmpebdggaaDoor.Mo
open Go.ChangeShapes Go.WideShapes Go.ChangeAt Go.RowKit
theorem gLengths : Tryd.prog.globalNamed "postbag/moment.lengths" = some 0 := by kernel_rfl
theorem tLengths : (Tryd.prog.globals[0]?).map (·.type) = some 86 := by kernel_rfl
theorem door_met (os : Os) (args : Array Value) : laidMetH Tryd.prog [("postbag/moment.lengths", Rows.laid_postbag_moment_lengths)] ((World.doorLaid Tryd.prog 400 os).forCall (fun _ _ => 0) ⟨#[], args, []⟩).memory :=
  laidMetH_of_parts3 (fuel := 8) (laidMet_of_run' 8 (by kernel_rfl) (by kernel_rfl)) (by kernel_rfl) (by kernel_rfl)
theorem of_laid {W : World} (h : laidMetH Tryd.prog [("postbag/moment.lengths", Rows.laid_postbag_moment_lengths)] W) : Laid W := by
  rw [MakeChecks.laidMetH_plain _ _ _ (by kernel_rfl)] at h
  obtain ⟨ps, ⟨g1, t1, cs1, f1, p1, q1, hg1, ht1, hv1, hd1, _, _⟩, _, _⟩ := h
  obtain rfl := Option.some.inj (gLengths.symm.trans hg1)
  obtain rfl := Option.some.inj (tLengths.symm.trans ht1)
  obtain ⟨xs, m1, rfl, hx1, hlen, hn3, hel⟩ := DataW.trod_array Tryd.underlying86 hd1
  have c3 : Tryd.prog.cellsOf 3 = 1 := by kernel_rfl
  simp only [Prod.mk.injEq, Rows.laid_postbag_moment_lengths, DataW.agg.injEq] at hx1
  have hcell : ∀ j, j < 12 → W.cell? ⟨0, j, none⟩ = some (.int .i64 (monthDays.getD j 0)) := by
    intro j hj
    have hj1 : j < xs.length := by omega
    have he := hel j hj
    rw [List.getElem?_eq_getElem hj1] at he
    obtain ⟨k, e1, e2, _⟩ := DataW.trod_int Tryd.underlying3 he
    have e3 : (xs.map (·.1))[j]? = some (.lit (.int .i64 k)) := by rw [List.getElem?_map, List.getElem?_eq_getElem hj1, e2]; rfl
    rw [← hx1.1] at e3
    have hk : k = monthDays.getD j 0 := by
      have hc : j = 0 ∨ j = 1 ∨ j = 2 ∨ j = 3 ∨ j = 4 ∨ j = 5 ∨ j = 6 ∨ j = 7 ∨ j = 8 ∨ j = 9 ∨ j = 10 ∨ j = 11 := by omega
      rcases hc with rfl | rfl | rfl | rfl | rfl | rfl | rfl | rfl | rfl | rfl | rfl | rfl <;> (simp at e3; rw [← e3]; rfl)
    rw [World.var?_cell hg1 hv1 j]
    rw [c3, Nat.mul_one] at e1
    have e4 : (cs1.toList.drop j)[0]? = some (.int .i64 k) := by
      have := congrArg (fun l => l[0]?) e1
      simpa [List.getElem?_take] using this
    rw [List.getElem?_drop, Nat.add_zero, Array.getElem?_toList] at e4
    rw [e4, hk]
  refine ⟨?_, hcell⟩
  have := hcell 0 (by omega)
  exact World.block_lt_of_cell? W ⟨0, 0, none⟩ this
end Go.Proofs.YtjlchnmpebdggaaDoor.Mo
end
