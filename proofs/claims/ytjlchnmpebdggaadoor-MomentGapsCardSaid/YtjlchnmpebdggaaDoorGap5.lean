import Derived.Test.YtjlchnmpebdggaaDoorGap4
import Derived.Test.YtjlchnmpebdggaaDoorGap3
import Derived.Maps.OwnOps
import Derived.Maps.Views
import Derived.Maps.Keyed
import Derived.Laws.Rows
import Derived.BigRegion
import Derived.Test.YtjlchnmpebdggaaDoorGap1
import Derived.Test.YtjlchnmpebdggaaDoorGap2
section
namespace Go.Proofs.YtjlchnmpebdggaaDoor.Mo
open Go.RowKit Go.Proofs.YtjlchnmpebdggaaDoorW.PrintWords Go.Proofs.YtjlchnmpebdggaaDoorW.PrintLast Go.Proofs.YtjlchnmpebdggaaDoorW.PrintMore
set_option linter.unusedSimpArgs false
set_option linter.unusedVariables false
attribute [local go_sem] max2_int min2_int max_two min_two
theorem ret_tup2 {a b : Int} {p r : Bool} (h : a = b) (h2 : p = r) : Ending.returned (.tuple #[.int .i64 a, .bool p]) = .returned (.tuple #[.int .i64 b, .bool r]) := by rw [h, h2]
abbrev St := Nat × Int × ByteArray
def CurS (c t : Nat) (s : ByteArray) (q : St) (w : World) : Prop := Cur c t s q.1 q.2.1 q.2.2 w
def nx (s : ByteArray) (q : St) : St := nextP s q.1
theorem nx_calls (c t : Nat) (s : ByteArray) (q : St) (w : World) (hs : s.size ≤ 140737488351232) (hi : q.1 ≤ s.size) (hc : CurS c t s q w) :
    Calls Tryd.prog 52 #[.pointer (some ⟨c, 0, none⟩)] w fun e w' => e = .returned (.tuple #[]) ∧ CurS c t s (nx s q) w' ∧ Turned c w w' := next_calls c t s q.1 q.2.1 q.2.2 w hs hi hc
theorem nx_le (s : ByteArray) (q : St) (h : q.1 ≤ s.size) : (nx s q).1 ≤ s.size := nextP_le s q.1 h
theorem sign_calls (c t : Nat) (s : ByteArray) (q : St) (kind : Int) (w : World) (hs : s.size ≤ 140737488351232) (hi : q.1 ≤ s.size) (hc : CurS c t s q w) :
    Calls Tryd.prog 57 #[.pointer (some ⟨c, 0, none⟩), .int .i64 kind] w fun e w' => e = .returned (.bool (q.2.1 == kind)) ∧ CurS c t s (nx s q) w' ∧ Turned c w w' := by
  obtain ⟨i, k, x⟩ := q
  obtain ⟨c0, c1, c2, c3, z1, z2, z3⟩ := cur4 hc
  have HC := Lib.hid hc
  clear hc
  go_enter Tryd.func57, Tryd.ntmps57
  go_wp2_with fail
  refine (nx_calls c t s (i, k, x) _ hs hi HC.out).mono ?_
  rintro e w1 ⟨rfl, h1, h2⟩
  have H1 := Lib.hid h1
  have H2 := Lib.hid h2
  clear h1 h2 c0 c1 c2 c3 z1 z2 z3
  go_wp2
  go_ret
  exact ⟨rfl, H1.out, H2.out⟩
def shortP (most : Int) (q : St) : Int × Bool := ((digitsP q.2.2).1, (digitsP q.2.2).2 && (q.2.1 == 2 && (decide (q.2.2.size ≤ 2) && decide ((digitsP q.2.2).1 ≤ most))))
set_option maxHeartbeats 1000000 in
theorem short_calls (c t : Nat) (s : ByteArray) (q : St) (most : Int) (w : World) (hs : s.size ≤ 140737488351232) (hi : q.1 ≤ s.size) (hc : CurS c t s q w) :
    Calls Tryd.prog 54 #[.pointer (some ⟨c, 0, none⟩), .int .i64 most] w fun e w' => e = .returned (.tuple #[.int .i64 (shortP most q).1, .bool (shortP most q).2]) ∧ CurS c t s (nx s q) w' ∧ Turned c w w' := by
  obtain ⟨i, k, x⟩ := q
  obtain ⟨c0, c1, c2, c3, z1, z2, z3⟩ := cur4 hc
  have HC := Lib.hid hc
  have hd : moment_digits.f 7 x = some ((digitsP x).1, (digitsP x).2) := digits_f 7 (by omega) x
  show Calls Tryd.prog 54 _ w fun e w' => e = .returned (.tuple #[.int .i64 (digitsP x).1, .bool ((digitsP x).2 && (k == 2 && (decide (x.size ≤ 2) && decide ((digitsP x).1 ≤ most))))]) ∧ _
  generalize (digitsP x).1 = D1 at *
  generalize (digitsP x).2 = D2 at *
  have HD := Lib.hid hd
  clear hc hd
  go_enter Tryd.func54, Tryd.ntmps54
  go_wp2_with (go_at_call 68; refine (moment_digits.calls 7 x D1 D2 _ HD.out).mono ?_; rintro e w1 ⟨rfl, ⟨nd, rfl⟩⟩)
  all_goals
    refine (nx_calls c t s (i, k, x) _ hs hi (by exact HC.out)).mono ?_
    rintro e w1 ⟨rfl, h1, h2⟩
    have H1 := Lib.hid h1
    have H2 := Lib.hid ((Turned.refl c w).drewN nd |>.trans h2)
    clear h1 h2 c0 c1 c2 c3 z1 z2 z3 HC
    go_wp2
    go_ret2
    exact ⟨ret_tup2 (by first | rfl | (simp [*]; done) | (simp [*]; omega)) (by first | rfl | (simp [*]; done) | (simp [*]; omega)), H1.out, H2.out⟩
def yearP (q : St) : Int × Bool :=
  (if q.2.2.size = 2 then (if (digitsP q.2.2).1 + 1900 < 1950 then (digitsP q.2.2).1 + 2000 else (digitsP q.2.2).1 + 1900) else if q.2.2.size = 3 then (digitsP q.2.2).1 + 1900 else (digitsP q.2.2).1,
   decide (q.2.2.size ≠ 1) && ((digitsP q.2.2).2 && q.2.1 == 2))
theorem digitsP_bound (s : ByteArray) : 0 ≤ (digitsP s).1 ∧ (digitsP s).1 < 10000 := by
  unfold digitsP
  split
  · rename_i h
    have := dval_bound _ h.2.2
    have h4 : (10 : Int) ^ s.data.toList.length ≤ 10 ^ 4 := by
      rw [toList_len]
      have h4 : s.size = 1 ∨ s.size = 2 ∨ s.size = 3 ∨ s.size = 4 := by omega
      rcases h4 with h | h | h | h <;> rw [h] <;> decide
    exact ⟨this.1, by have := this.2; omega⟩
  · exact ⟨by decide, by decide⟩
set_option maxHeartbeats 4000000 in
theorem year_calls (c t : Nat) (s : ByteArray) (q : St) (w : World) (hs : s.size ≤ 140737488351232) (hi : q.1 ≤ s.size) (hc : CurS c t s q w) :
    Calls Tryd.prog 56 #[.pointer (some ⟨c, 0, none⟩)] w fun e w' => e = .returned (.tuple #[.int .i64 (yearP q).1, .bool (yearP q).2]) ∧ CurS c t s (nx s q) w' ∧ Turned c w w' := by
  obtain ⟨i, k, x⟩ := q
  obtain ⟨c0, c1, c2, c3, z1, z2, z3⟩ := cur4 hc
  have HC := Lib.hid hc
  have hd : moment_digits.f 7 x = some ((digitsP x).1, (digitsP x).2) := digits_f 7 (by omega) x
  obtain ⟨hb0, hb1⟩ := digitsP_bound x
  have HNX := Lib.hid (fun w h => nx_calls c t s (i, k, x) w hs hi h)
  have hY : yearP (i, k, x) = (if x.size = 2 then (if (digitsP x).1 + 1900 < 1950 then (digitsP x).1 + 2000 else (digitsP x).1 + 1900) else if x.size = 3 then (digitsP x).1 + 1900 else (digitsP x).1,
   decide (x.size ≠ 1) && ((digitsP x).2 && k == 2)) := rfl
  generalize (digitsP x).1 = D1 at *
  generalize (digitsP x).2 = D2 at *
  generalize nx s (i, k, x) = q1 at *
  have HD := Lib.hid hd
  clear hc hd
  by_cases h1 : x.size = 1
  · have hsz := h1
    have g1 : ((x.size : Int) == 1) = true := by rw [beq_iff_eq]; omega
    clear h1
    cases D2 with
    | false =>
      have e : yearP (i, k, x) = (D1, false) := by rw [hY]; simp [hsz]
      rw [e]
      clear e hY hsz
      go_enter Tryd.func56, Tryd.ntmps56
      go_wp2_with (go_at_call 68; refine (moment_digits.calls 7 x D1 false _ HD.out).mono ?_; rintro e w1 ⟨rfl, ⟨nd, rfl⟩⟩)
      refine (HNX.out _ (by exact HC.out)).mono ?_
      rintro e w1 ⟨rfl, h1_, h2_⟩
      have H1 := Lib.hid h1_
      have H2 := Lib.hid ((Turned.refl c w).drewN nd |>.trans h2_)
      clear h1_ h2_ c0 c1 c2 c3 z1 z2 z3 HC
      go_wp2
      go_ret2
      exact ⟨ret_tup2 (by omega) rfl, H1.out, H2.out⟩
    | true =>
      by_cases hk : k = 2
      · have gk : (k == 2) = true := by rw [beq_iff_eq]; exact hk
        have e : yearP (i, k, x) = (D1, false) := by rw [hY]; simp [hsz, hk]
        rw [e]
        clear e hY hk hsz
        go_enter Tryd.func56, Tryd.ntmps56
        go_wp2_with (go_at_call 68; refine (moment_digits.calls 7 x D1 true _ HD.out).mono ?_; rintro e w1 ⟨rfl, ⟨nd, rfl⟩⟩)
        refine (HNX.out _ (by exact HC.out)).mono ?_
        rintro e w1 ⟨rfl, h1_, h2_⟩
        have H1 := Lib.hid h1_
        have H2 := Lib.hid ((Turned.refl c w).drewN nd |>.trans h2_)
        clear h1_ h2_ c0 c1 c2 c3 z1 z2 z3 HC
        go_wp2
        go_ret2
        exact ⟨ret_tup2 (by omega) rfl, H1.out, H2.out⟩
      · have gk : (k == 2) = false := by rw [beq_eq_false_iff_ne]; exact hk
        have e : yearP (i, k, x) = (D1, false) := by rw [hY]; simp [hsz, hk]
        rw [e]
        clear e hY hk hsz
        go_enter Tryd.func56, Tryd.ntmps56
        go_wp2_with (go_at_call 68; refine (moment_digits.calls 7 x D1 true _ HD.out).mono ?_; rintro e w1 ⟨rfl, ⟨nd, rfl⟩⟩)
        refine (HNX.out _ (by exact HC.out)).mono ?_
        rintro e w1 ⟨rfl, h1_, h2_⟩
        have H1 := Lib.hid h1_
        have H2 := Lib.hid ((Turned.refl c w).drewN nd |>.trans h2_)
        clear h1_ h2_ c0 c1 c2 c3 z1 z2 z3 HC
        go_wp2
        go_ret2
        exact ⟨ret_tup2 (by omega) rfl, H1.out, H2.out⟩
  · by_cases h2 : x.size = 2
    · have hsz := h2
      have g1 : ((x.size : Int) == 1) = false := by rw [beq_eq_false_iff_ne]; omega
      have g2 : ((x.size : Int) == 2) = true := by rw [beq_iff_eq]; omega
      clear h1 h2
      by_cases h1950 : D1 + 1900 < 1950
      · skip
        cases D2 with
        | false =>
          have e : yearP (i, k, x) = (D1 + 2000, false) := by rw [hY]; simp [hsz, h1950]
          rw [e]
          clear e hY hsz
          go_enter Tryd.func56, Tryd.ntmps56
          go_wp2_with (go_at_call 68; refine (moment_digits.calls 7 x D1 false _ HD.out).mono ?_; rintro e w1 ⟨rfl, ⟨nd, rfl⟩⟩)
          refine (HNX.out _ (by exact HC.out)).mono ?_
          rintro e w1 ⟨rfl, h1_, h2_⟩
          have H1 := Lib.hid h1_
          have H2 := Lib.hid ((Turned.refl c w).drewN nd |>.trans h2_)
          clear h1_ h2_ c0 c1 c2 c3 z1 z2 z3 HC
          go_wp2
          go_ret2
          exact ⟨ret_tup2 (by omega) rfl, H1.out, H2.out⟩
        | true =>
          by_cases hk : k = 2
          · have gk : (k == 2) = true := by rw [beq_iff_eq]; exact hk
            have e : yearP (i, k, x) = (D1 + 2000, true) := by rw [hY]; simp [hsz, hk, h1950]
            rw [e]
            clear e hY hk hsz
            go_enter Tryd.func56, Tryd.ntmps56
            go_wp2_with (go_at_call 68; refine (moment_digits.calls 7 x D1 true _ HD.out).mono ?_; rintro e w1 ⟨rfl, ⟨nd, rfl⟩⟩)
            refine (HNX.out _ (by exact HC.out)).mono ?_
            rintro e w1 ⟨rfl, h1_, h2_⟩
            have H1 := Lib.hid h1_
            have H2 := Lib.hid ((Turned.refl c w).drewN nd |>.trans h2_)
            clear h1_ h2_ c0 c1 c2 c3 z1 z2 z3 HC
            go_wp2
            go_ret2
            exact ⟨ret_tup2 (by omega) rfl, H1.out, H2.out⟩
          · have gk : (k == 2) = false := by rw [beq_eq_false_iff_ne]; exact hk
            have e : yearP (i, k, x) = (D1 + 2000, false) := by rw [hY]; simp [hsz, hk, h1950]
            rw [e]
            clear e hY hk hsz
            go_enter Tryd.func56, Tryd.ntmps56
            go_wp2_with (go_at_call 68; refine (moment_digits.calls 7 x D1 true _ HD.out).mono ?_; rintro e w1 ⟨rfl, ⟨nd, rfl⟩⟩)
            refine (HNX.out _ (by exact HC.out)).mono ?_
            rintro e w1 ⟨rfl, h1_, h2_⟩
            have H1 := Lib.hid h1_
            have H2 := Lib.hid ((Turned.refl c w).drewN nd |>.trans h2_)
            clear h1_ h2_ c0 c1 c2 c3 z1 z2 z3 HC
            go_wp2
            go_ret2
            exact ⟨ret_tup2 (by omega) rfl, H1.out, H2.out⟩
      · skip
        cases D2 with
        | false =>
          have e : yearP (i, k, x) = (D1 + 1900, false) := by rw [hY]; simp [hsz, h1950]
          rw [e]
          clear e hY hsz
          go_enter Tryd.func56, Tryd.ntmps56
          go_wp2_with (go_at_call 68; refine (moment_digits.calls 7 x D1 false _ HD.out).mono ?_; rintro e w1 ⟨rfl, ⟨nd, rfl⟩⟩)
          refine (HNX.out _ (by exact HC.out)).mono ?_
          rintro e w1 ⟨rfl, h1_, h2_⟩
          have H1 := Lib.hid h1_
          have H2 := Lib.hid ((Turned.refl c w).drewN nd |>.trans h2_)
          clear h1_ h2_ c0 c1 c2 c3 z1 z2 z3 HC
          go_wp2
          go_ret2
          exact ⟨ret_tup2 (by omega) rfl, H1.out, H2.out⟩
        | true =>
          by_cases hk : k = 2
          · have gk : (k == 2) = true := by rw [beq_iff_eq]; exact hk
            have e : yearP (i, k, x) = (D1 + 1900, true) := by rw [hY]; simp [hsz, hk, h1950]
            rw [e]
            clear e hY hk hsz
            go_enter Tryd.func56, Tryd.ntmps56
            go_wp2_with (go_at_call 68; refine (moment_digits.calls 7 x D1 true _ HD.out).mono ?_; rintro e w1 ⟨rfl, ⟨nd, rfl⟩⟩)
            refine (HNX.out _ (by exact HC.out)).mono ?_
            rintro e w1 ⟨rfl, h1_, h2_⟩
            have H1 := Lib.hid h1_
            have H2 := Lib.hid ((Turned.refl c w).drewN nd |>.trans h2_)
            clear h1_ h2_ c0 c1 c2 c3 z1 z2 z3 HC
            go_wp2
            go_ret2
            exact ⟨ret_tup2 (by omega) rfl, H1.out, H2.out⟩
          · have gk : (k == 2) = false := by rw [beq_eq_false_iff_ne]; exact hk
            have e : yearP (i, k, x) = (D1 + 1900, false) := by rw [hY]; simp [hsz, hk, h1950]
            rw [e]
            clear e hY hk hsz
            go_enter Tryd.func56, Tryd.ntmps56
            go_wp2_with (go_at_call 68; refine (moment_digits.calls 7 x D1 true _ HD.out).mono ?_; rintro e w1 ⟨rfl, ⟨nd, rfl⟩⟩)
            refine (HNX.out _ (by exact HC.out)).mono ?_
            rintro e w1 ⟨rfl, h1_, h2_⟩
            have H1 := Lib.hid h1_
            have H2 := Lib.hid ((Turned.refl c w).drewN nd |>.trans h2_)
            clear h1_ h2_ c0 c1 c2 c3 z1 z2 z3 HC
            go_wp2
            go_ret2
            exact ⟨ret_tup2 (by omega) rfl, H1.out, H2.out⟩
    · by_cases h3 : x.size = 3
      · have hsz := h3
        have g1 : ((x.size : Int) == 1) = false := by rw [beq_eq_false_iff_ne]; omega
        have g2 : ((x.size : Int) == 2) = false := by rw [beq_eq_false_iff_ne]; omega
        have g3 : ((x.size : Int) == 3) = true := by rw [beq_iff_eq]; omega
        clear h1 h2 h3
        cases D2 with
        | false =>
          have e : yearP (i, k, x) = (D1 + 1900, false) := by rw [hY]; simp [hsz]
          rw [e]
          clear e hY hsz
          go_enter Tryd.func56, Tryd.ntmps56
          go_wp2_with (go_at_call 68; refine (moment_digits.calls 7 x D1 false _ HD.out).mono ?_; rintro e w1 ⟨rfl, ⟨nd, rfl⟩⟩)
          refine (HNX.out _ (by exact HC.out)).mono ?_
          rintro e w1 ⟨rfl, h1_, h2_⟩
          have H1 := Lib.hid h1_
          have H2 := Lib.hid ((Turned.refl c w).drewN nd |>.trans h2_)
          clear h1_ h2_ c0 c1 c2 c3 z1 z2 z3 HC
          go_wp2
          go_ret2
          exact ⟨ret_tup2 (by omega) rfl, H1.out, H2.out⟩
        | true =>
          by_cases hk : k = 2
          · have gk : (k == 2) = true := by rw [beq_iff_eq]; exact hk
            have e : yearP (i, k, x) = (D1 + 1900, true) := by rw [hY]; simp [hsz, hk]
            rw [e]
            clear e hY hk hsz
            go_enter Tryd.func56, Tryd.ntmps56
            go_wp2_with (go_at_call 68; refine (moment_digits.calls 7 x D1 true _ HD.out).mono ?_; rintro e w1 ⟨rfl, ⟨nd, rfl⟩⟩)
            refine (HNX.out _ (by exact HC.out)).mono ?_
            rintro e w1 ⟨rfl, h1_, h2_⟩
            have H1 := Lib.hid h1_
            have H2 := Lib.hid ((Turned.refl c w).drewN nd |>.trans h2_)
            clear h1_ h2_ c0 c1 c2 c3 z1 z2 z3 HC
            go_wp2
            go_ret2
            exact ⟨ret_tup2 (by omega) rfl, H1.out, H2.out⟩
          · have gk : (k == 2) = false := by rw [beq_eq_false_iff_ne]; exact hk
            have e : yearP (i, k, x) = (D1 + 1900, false) := by rw [hY]; simp [hsz, hk]
            rw [e]
            clear e hY hk hsz
            go_enter Tryd.func56, Tryd.ntmps56
            go_wp2_with (go_at_call 68; refine (moment_digits.calls 7 x D1 true _ HD.out).mono ?_; rintro e w1 ⟨rfl, ⟨nd, rfl⟩⟩)
            refine (HNX.out _ (by exact HC.out)).mono ?_
            rintro e w1 ⟨rfl, h1_, h2_⟩
            have H1 := Lib.hid h1_
            have H2 := Lib.hid ((Turned.refl c w).drewN nd |>.trans h2_)
            clear h1_ h2_ c0 c1 c2 c3 z1 z2 z3 HC
            go_wp2
            go_ret2
            exact ⟨ret_tup2 (by omega) rfl, H1.out, H2.out⟩
      · skip
        have g1 : ((x.size : Int) == 1) = false := by rw [beq_eq_false_iff_ne]; omega
        have g2 : ((x.size : Int) == 2) = false := by rw [beq_eq_false_iff_ne]; omega
        have g3 : ((x.size : Int) == 3) = false := by rw [beq_eq_false_iff_ne]; omega
        cases D2 with
        | false =>
          have e : yearP (i, k, x) = (D1, false) := by rw [hY]; simp [h1, h2, h3]
          rw [e]
          clear e hY h1 h2 h3
          go_enter Tryd.func56, Tryd.ntmps56
          go_wp2_with (go_at_call 68; refine (moment_digits.calls 7 x D1 false _ HD.out).mono ?_; rintro e w1 ⟨rfl, ⟨nd, rfl⟩⟩)
          refine (HNX.out _ (by exact HC.out)).mono ?_
          rintro e w1 ⟨rfl, h1_, h2_⟩
          have H1 := Lib.hid h1_
          have H2 := Lib.hid ((Turned.refl c w).drewN nd |>.trans h2_)
          clear h1_ h2_ c0 c1 c2 c3 z1 z2 z3 HC
          go_wp2
          go_ret2
          exact ⟨ret_tup2 (by omega) rfl, H1.out, H2.out⟩
        | true =>
          by_cases hk : k = 2
          · have gk : (k == 2) = true := by rw [beq_iff_eq]; exact hk
            have e : yearP (i, k, x) = (D1, true) := by rw [hY]; simp [h1, h2, h3, hk]
            rw [e]
            clear e hY hk h1 h2 h3
            go_enter Tryd.func56, Tryd.ntmps56
            go_wp2_with (go_at_call 68; refine (moment_digits.calls 7 x D1 true _ HD.out).mono ?_; rintro e w1 ⟨rfl, ⟨nd, rfl⟩⟩)
            refine (HNX.out _ (by exact HC.out)).mono ?_
            rintro e w1 ⟨rfl, h1_, h2_⟩
            have H1 := Lib.hid h1_
            have H2 := Lib.hid ((Turned.refl c w).drewN nd |>.trans h2_)
            clear h1_ h2_ c0 c1 c2 c3 z1 z2 z3 HC
            go_wp2
            go_ret2
            exact ⟨ret_tup2 (by omega) rfl, H1.out, H2.out⟩
          · have gk : (k == 2) = false := by rw [beq_eq_false_iff_ne]; exact hk
            have e : yearP (i, k, x) = (D1, false) := by rw [hY]; simp [h1, h2, h3, hk]
            rw [e]
            clear e hY hk h1 h2 h3
            go_enter Tryd.func56, Tryd.ntmps56
            go_wp2_with (go_at_call 68; refine (moment_digits.calls 7 x D1 true _ HD.out).mono ?_; rintro e w1 ⟨rfl, ⟨nd, rfl⟩⟩)
            refine (HNX.out _ (by exact HC.out)).mono ?_
            rintro e w1 ⟨rfl, h1_, h2_⟩
            have H1 := Lib.hid h1_
            have H2 := Lib.hid ((Turned.refl c w).drewN nd |>.trans h2_)
            clear h1_ h2_ c0 c1 c2 c3 z1 z2 z3 HC
            go_wp2
            go_ret2
            exact ⟨ret_tup2 (by omega) rfl, H1.out, H2.out⟩
def secondP (s : ByteArray) (q : St) : Int × Bool := if q.2.1 = 5 then (if 59 < (shortP 60 (nx s q)).1 then 59 else (shortP 60 (nx s q)).1, (shortP 60 (nx s q)).2) else (0, true)
def secondS (s : ByteArray) (q : St) : St := if q.2.1 = 5 then nx s (nx s q) else q
set_option maxHeartbeats 1000000 in
theorem second_calls (c t : Nat) (s : ByteArray) (q : St) (w : World) (hs : s.size ≤ 140737488351232) (hi : q.1 ≤ s.size) (hc : CurS c t s q w) :
    Calls Tryd.prog 58 #[.pointer (some ⟨c, 0, none⟩)] w fun e w' => e = .returned (.tuple #[.int .i64 (secondP s q).1, .bool (secondP s q).2]) ∧ CurS c t s (secondS s q) w' ∧ Turned c w w' := by
  obtain ⟨i, k, x⟩ := q
  obtain ⟨c0, c1, c2, c3, z1, z2, z3⟩ := cur4 hc
  have HC := Lib.hid hc
  clear hc
  by_cases hk : k = 5
  · have e1 : secondP s (i, k, x) = (if 59 < (shortP 60 (nx s (i, k, x))).1 then 59 else (shortP 60 (nx s (i, k, x))).1, (shortP 60 (nx s (i, k, x))).2) := if_pos hk
    have e2 : secondS s (i, k, x) = nx s (nx s (i, k, x)) := if_pos hk
    rw [e1, e2]
    have hg : (k != 5) = false := by rw [bne_eq_false_iff_eq]; exact hk
    have hi2 := nx_le s (i, k, x) hi
    have HNX := Lib.hid (nx_calls c t s (i, k, x) w hs hi HC.out)
    have hsh := fun w h => short_calls c t s (nx s (i, k, x)) 60 w hs hi2 h
    dsimp only
    generalize nx s (i, k, x) = q1 at *
    obtain ⟨S1, S2, hS⟩ : ∃ S1 S2, shortP 60 q1 = (S1, S2) := ⟨_, _, rfl⟩
    rw [hS] at hsh ⊢
    dsimp only at hsh ⊢
    have HSH := Lib.hid hsh
    clear hsh e1 e2 hk hS
    go_enter Tryd.func58, Tryd.ntmps58
    go_wp2_with fail
    refine HNX.out.mono ?_
    rintro e w1 ⟨rfl, h1, h2⟩
    have H1 := Lib.hid h1
    have H2 := Lib.hid h2
    clear h1 h2 c0 c1 c2 c3 z1 z2 z3 HC
    go_wp2_with fail
    refine (HSH.out _ H1.out).mono ?_
    rintro e w2 ⟨rfl, h1, h2⟩
    have H3 := Lib.hid h1
    have H4 := Lib.hid (H2.out.trans h2)
    clear h1 h2
    go_wp2
    all_goals
      go_ret2
      exact ⟨ret_tup2 (by first | rfl | (simp [*]; done) | (simp [*]; omega)) rfl, H3.out, H4.out⟩
  · have e1 : secondP s (i, k, x) = (0, true) := if_neg hk
    have e2 : secondS s (i, k, x) = (i, k, x) := if_neg hk
    rw [e1, e2]
    have hg : (k != 5) = true := by rw [bne_iff_ne]; exact hk
    clear e1 e2
    go_enter Tryd.func58, Tryd.ntmps58
    go_wp2
    go_ret2
    exact ⟨rfl, HC.out, Turned.refl _ _⟩
end Go.Proofs.YtjlchnmpebdggaaDoor.Mo
end
section
namespace Go.Proofs.YtjlchnmpebdggaaDoor.Mo
open Go.RowKit Go.Proofs.YtjlchnmpebdggaaDoorW.PrintWords
theorem nx_text (s : ByteArray) (q : St) : (nx s q).2.2.size ≤ s.size := by
  unfold nx nextP
  simp only
  split
  · show 0 ≤ _; omega
  · simp only [ByteArray.size_extract]; omega
def weekP (s : ByteArray) (q : St) : Bool := if q.2.1 = 1 then (nx s q).2.1 == 4 && decide (0 ≤ placeP q.2.2 weekL 0) else true
def weekS (s : ByteArray) (q : St) : St := if q.2.1 = 1 then nx s (nx s q) else q
def monthP (q : St) : Int × Bool := if q.2.1 = 1 then (placeP q.2.2 monthL 0 + 1, decide (0 ≤ placeP q.2.2 monthL 0)) else (0, false)
set_option maxHeartbeats 1000000 in
theorem week_calls (c t : Nat) (s : ByteArray) (q : St) (w : World) (hs : s.size ≤ 140737488351232) (hi : q.1 ≤ s.size) (hx : q.2.2.size ≤ 140737488351232) (hc : CurS c t s q w) (hcl : c < w.heap.size) :
    Calls Tryd.prog 53 #[.pointer (some ⟨c, 0, none⟩)] w fun e w' => e = .returned (.bool (weekP s q)) ∧ CurS c t s (weekS s q) w' ∧ Turned c w w' := by
  obtain ⟨i, k, x⟩ := q
  obtain ⟨c0, c1, c2, c3, z1, z2, z3⟩ := cur4 hc
  have HC := Lib.hid hc
  clear hc
  by_cases hk : k = 1
  · have e1 : weekP s (i, k, x) = ((nx s (i, k, x)).2.1 == 4 && decide (0 ≤ placeP x weekL 0)) := if_pos hk
    have e2 : weekS s (i, k, x) = nx s (nx s (i, k, x)) := if_pos hk
    rw [e1, e2]
    have hg : (k != 1) = false := by rw [bne_eq_false_iff_eq]; exact hk
    have hi2 := nx_le s (i, k, x) hi
    have HNX := Lib.hid (fun w h => nx_calls c t s (i, k, x) w hs hi h)
    have hsh := fun w h => sign_calls c t s (nx s (i, k, x)) 4 w hs hi2 h
    generalize nx s (i, k, x) = q1 at *
    have HSH := Lib.hid hsh
    obtain ⟨P, hP⟩ : ∃ P, placeP x weekL 0 = P := ⟨_, rfl⟩
    rw [hP]
    have HP := Lib.hid hP
    have hx' : x.size ≤ 140737488351232 := hx
    clear hsh e1 e2 hk hP hx
    go_enter Tryd.func53, Tryd.ntmps53
    go_wp2_with fail
    refine (weekdays_calls _).mono ?_
    rintro e w1 ⟨rfl, hb1⟩
    go_wp2_with fail
    have hrow := heap_alloc_new w1 (.cells (weekL.map Value.string).toArray 69)
    have hT := ((Turned.refl c w).made hb1).alloc (.cells (weekL.map Value.string).toArray 69)
    have hC : CurS c t s (i, k, x) (w1.alloc (.cells (weekL.map Value.string).toArray 69)) := by
      have h : w.heap[c]? = some (.cells #[.string s, .int .i64 i, .int .i64 k, .string x] t (0, 0)) := HC.out
      show (w1.alloc (.cells (weekL.map Value.string).toArray 69)).heap[c]? = _
      rw [Below.heap_alloc _ _ _ (Nat.lt_of_lt_of_le hcl hb1.size), hb1.block c hcl, h]
    obtain ⟨g, hg1⟩ : ∃ g, w1.heap.size = g := ⟨_, rfl⟩
    obtain ⟨w2, hw2⟩ : ∃ w2, w1.alloc (.cells (weekL.map Value.string).toArray 69) = w2 := ⟨_, rfl⟩
    rw [hw2] at hrow hT hC
    rw [hg1] at hrow ⊢
    rw [show w1.alloc (Obj.cells #[Value.string ⟨#[83, 117, 110]⟩, .string ⟨#[77, 111, 110]⟩, .string ⟨#[84, 117, 101]⟩, .string ⟨#[87, 101, 100]⟩, .string ⟨#[84, 104, 117]⟩, .string ⟨#[70, 114, 105]⟩, .string ⟨#[83, 97, 116]⟩] 69) = w2 from hw2]
    have hglt : g < w2.heap.size := (Array.getElem?_eq_some_iff.1 hrow).1
    have hcl2 : c < w2.heap.size := Nat.lt_of_lt_of_le hcl hT.size
    have HROW := Lib.hid hrow
    have HT := Lib.hid hT
    have HC2 := Lib.hid hC
    clear hrow hw2 hg1 hb1 hT hC c0 c1 c2 c3 z1 z2 z3 HC
    obtain ⟨c0, c1, c2, c3, z1, z2, z3⟩ := cur4 HC2.out
    go_region_with (go_at_call 92; refine (place_calls weekL g 7 x _ hx' (by decide) week_small (fun j x hx => week_cells (by exact HROW.out) j x hx) (by exact hglt)).mono ?_; rw [HP.out]; rintro e w3 ⟨rfl, hb3⟩; have HT3 := Lib.hid (HT.out.drew.made hb3); have HC3 := Lib.hid ((hb3.block c (by exact hcl2)).trans HC2.out); clear hb3)
    go_wp2_with fail
    refine (HNX.out _ (by exact HC3.out)).mono ?_
    rintro e w4 ⟨rfl, h1, h2⟩
    have H1 := Lib.hid h1
    have H2 := Lib.hid (HT3.out.trans h2)
    clear h1 h2 c0 c1 c2 c3 z1 z2 z3 HT3 HC3
    go_wp2_with fail
    refine (HSH.out _ H1.out).mono ?_
    rintro e w5 ⟨rfl, h3, h4⟩
    have H3 := Lib.hid h3
    have H4 := Lib.hid (H2.out.trans h4)
    clear h3 h4
    by_cases hq : q1.2.1 = 4
    · have hq2 : (q1.2.1 == 4) = true := by rw [beq_iff_eq]; exact hq
      go_wp2
      go_ret
      exact ⟨by simp [hq], H3.out, H4.out⟩
    · have hq2 : (q1.2.1 == 4) = false := by rw [beq_eq_false_iff_ne]; exact hq
      go_wp2
      go_ret
      exact ⟨by simp [hq], H3.out, H4.out⟩
  · have e1 : weekP s (i, k, x) = true := if_neg hk
    have e2 : weekS s (i, k, x) = (i, k, x) := if_neg hk
    rw [e1, e2]
    have hg : (k != 1) = true := by rw [bne_iff_ne]; exact hk
    clear e1 e2 hx
    go_enter Tryd.func53, Tryd.ntmps53
    go_wp2
    go_ret
    exact ⟨rfl, HC.out, Turned.refl _ _⟩
set_option maxHeartbeats 1000000 in
theorem month_calls (c t : Nat) (s : ByteArray) (q : St) (w : World) (hs : s.size ≤ 140737488351232) (hi : q.1 ≤ s.size) (hx : q.2.2.size ≤ 140737488351232) (hc : CurS c t s q w) (hcl : c < w.heap.size) :
    Calls Tryd.prog 55 #[.pointer (some ⟨c, 0, none⟩)] w fun e w' => e = .returned (.tuple #[.int .i64 (monthP q).1, .bool (monthP q).2]) ∧ CurS c t s (nx s q) w' ∧ Turned c w w' := by
  obtain ⟨i, k, x⟩ := q
  obtain ⟨c0, c1, c2, c3, z1, z2, z3⟩ := cur4 hc
  have HC := Lib.hid hc
  clear hc
  have HNX := Lib.hid (fun w h => nx_calls c t s (i, k, x) w hs hi h)
  by_cases hk : k = 1
  · have e1 : monthP (i, k, x) = (placeP x monthL 0 + 1, decide (0 ≤ placeP x monthL 0)) := if_pos hk
    rw [e1]
    have hg : (k == 1) = true := by rw [beq_iff_eq]; exact hk
    have hr := placeP_range x monthL 0
    obtain ⟨P, hP⟩ : ∃ P, placeP x monthL 0 = P := ⟨_, rfl⟩
    rw [hP] at hr ⊢
    have hr0 : -1 ≤ P := hr.1
    have hr1 : P < 12 := hr.2
    have HP := Lib.hid hP
    have hx' : x.size ≤ 140737488351232 := hx
    generalize nx s (i, k, x) = q1 at *
    dsimp only
    clear e1 hk hP hx hr
    go_enter Tryd.func55, Tryd.ntmps55
    go_wp2_with fail
    refine (months_calls _).mono ?_
    rintro e w1 ⟨rfl, hb1⟩
    go_wp2_with fail
    have hrow := heap_alloc_new w1 (.cells (monthL.map Value.string).toArray 71)
    have hT := ((Turned.refl c w).made hb1).alloc (.cells (monthL.map Value.string).toArray 71)
    have hC : CurS c t s (i, k, x) (w1.alloc (.cells (monthL.map Value.string).toArray 71)) := by
      have h : w.heap[c]? = some (.cells #[.string s, .int .i64 i, .int .i64 k, .string x] t (0, 0)) := HC.out
      show (w1.alloc (.cells (monthL.map Value.string).toArray 71)).heap[c]? = _
      rw [Below.heap_alloc _ _ _ (Nat.lt_of_lt_of_le hcl hb1.size), hb1.block c hcl, h]
    obtain ⟨g, hg1⟩ : ∃ g, w1.heap.size = g := ⟨_, rfl⟩
    obtain ⟨w2, hw2⟩ : ∃ w2, w1.alloc (.cells (monthL.map Value.string).toArray 71) = w2 := ⟨_, rfl⟩
    rw [hw2] at hrow hT hC
    rw [hg1] at hrow ⊢
    rw [show w1.alloc (Obj.cells #[Value.string ⟨#[74, 97, 110]⟩, .string ⟨#[70, 101, 98]⟩, .string ⟨#[77, 97, 114]⟩, .string ⟨#[65, 112, 114]⟩, .string ⟨#[77, 97, 121]⟩, .string ⟨#[74, 117, 110]⟩, .string ⟨#[74, 117, 108]⟩, .string ⟨#[65, 117, 103]⟩, .string ⟨#[83, 101, 112]⟩, .string ⟨#[79, 99, 116]⟩, .string ⟨#[78, 111, 118]⟩, .string ⟨#[68, 101, 99]⟩] 71) = w2 from hw2]
    have hglt : g < w2.heap.size := (Array.getElem?_eq_some_iff.1 hrow).1
    have hcl2 : c < w2.heap.size := Nat.lt_of_lt_of_le hcl hT.size
    have HROW := Lib.hid hrow
    have HT := Lib.hid hT
    have HC2 := Lib.hid hC
    clear hrow hw2 hg1 hb1 hT hC c0 c1 c2 c3 z1 z2 z3 HC
    obtain ⟨c0, c1, c2, c3, z1, z2, z3⟩ := cur4 HC2.out
    go_region_with (go_at_call 92; refine (place_calls monthL g 12 x _ hx' (by decide) month_small (fun j x hx => month_cells (by exact HROW.out) j x hx) (by exact hglt)).mono ?_; rw [HP.out]; rintro e w3 ⟨rfl, hb3⟩; have HT3 := Lib.hid (HT.out.drew.made hb3); have HC3 := Lib.hid ((hb3.block c (by exact hcl2)).trans HC2.out); clear hb3)
    go_wp2_with fail
    refine (HNX.out _ (by exact HC3.out)).mono ?_
    rintro e w4 ⟨rfl, h1, h2⟩
    have H1 := Lib.hid h1
    have H2 := Lib.hid (HT3.out.trans h2)
    clear h1 h2 c0 c1 c2 c3 z1 z2 z3 HT3 HC3
    go_wp2
    go_ret2
    exact ⟨rfl, H1.out, H2.out⟩
  · have e1 : monthP (i, k, x) = (0, false) := if_neg hk
    rw [e1]
    have hg : (k == 1) = false := by rw [beq_eq_false_iff_ne]; exact hk
    generalize nx s (i, k, x) = q1 at *
    clear e1 hx
    go_enter Tryd.func55, Tryd.ntmps55
    go_wp2_with fail
    refine (HNX.out _ (by exact HC.out)).mono ?_
    rintro e w4 ⟨rfl, h1, h2⟩
    have H1 := Lib.hid h1
    have H2 := Lib.hid h2
    clear h1 h2 c0 c1 c2 c3 z1 z2 z3 HC
    go_wp2
    go_ret2
    exact ⟨rfl, H1.out, H2.out⟩
end Go.Proofs.YtjlchnmpebdggaaDoor.Mo
end
section
namespace Go.Proofs.YtjlchnmpebdggaaDoor.Mo
open Go.RowKit Go.Proofs.YtjlchnmpebdggaaDoorW.PrintWords Go.Maps Go.WideMaps
def zoneL (l : List UInt8) : Int :=
  if l = [80, 68, 84] then (-420) else if l = [80, 83, 84] then (-480) else if l = [77, 68, 84] then (-360) else if l = [77, 83, 84] then (-420) else if l = [67, 68, 84] then (-300) else if l = [67, 83, 84] then (-360) else if l = [69, 68, 84] then (-240) else if l = [69, 83, 84] then (-300) else 0
theorem key9 : Keyed Tryd.prog 9 := string_keyed Tryd.underlying9
theorem zero3 (w : World) : (zeroValue 3).run Tryd.prog w = .ok (.int .i64 0) w := by kernel_rfl
theorem wpList_insert_own {H : Type} {P : Program} (w : World) {ops : Array Oper} {rest : List Oper} {o : Oper} {a : Act} {Q : Exit → Act → World → Prop}
    (hg : o.guard = none) (m x v : Operand) (t : TypeId) (hop : o.op = Op.insert t m x v)
    (k e : TypeId) (K : Keyed P k) (ht : P.underlying t = some (.map k e)) (R : Value → Option (DataW H × List MemPlace)) (b n : Nat) (D : DataW H)
    (hm : a.eval m = .map (some b)) (hown : w.ownsMap P k R b n D) (hn : n < maxLen) (key val : Value) (kl : Lit) (hx : a.eval x = key) (hv : a.eval v = val) (hkey : keyOf P k key = some kl)
    (d : DataW H) (ps : List MemPlace) (hval : R val = some (d, ps))
    (hK : ∀ w', w'.ownsMap P k R b (n + 1) (D.put kl d) → w.grownBy w' (some b) → wpList P ops Q rest (a.put o.dst undef) w') :
    wpList P ops Q (o :: rest) a w := by
  refine wpList_plain hg fun K' hK' => ?_
  obtain ⟨w', hrun, r1, r2⟩ := hown.update K ht hn hkey hval
  unfold Oper.wp
  simp [execOp, hop, hm, hx, hv, hrun, Result.andThen]
  exact hK' _ _ (hK w' r1 r2)
def zoneD : DataW Unit := (((((((((.map [] : DataW Unit).put (.string [69, 83, 84]) (.lit (.int .i64 (-300)))).put (.string [69, 68, 84]) (.lit (.int .i64 (-240)))).put (.string [67, 83, 84]) (.lit (.int .i64 (-360)))).put (.string [67, 68, 84]) (.lit (.int .i64 (-300)))).put (.string [77, 83, 84]) (.lit (.int .i64 (-420)))).put (.string [77, 68, 84]) (.lit (.int .i64 (-360)))).put (.string [80, 83, 84]) (.lit (.int .i64 (-480)))).put (.string [80, 68, 84]) (.lit (.int .i64 (-420))))
theorem zoneD_at (l : List UInt8) : zoneD.atKey (.string l) (.lit (.int .i64 0)) = .lit (.int .i64 (zoneL l)) := by
  unfold zoneD zoneL
  by_cases hPDT : l = [80, 68, 84]
  · rw [if_pos hPDT, hPDT]; rfl
  rw [if_neg hPDT, atKey_put_other (fun h => hPDT (Lit.string.inj h))]
  by_cases hPST : l = [80, 83, 84]
  · rw [if_pos hPST, hPST]; rfl
  rw [if_neg hPST, atKey_put_other (fun h => hPST (Lit.string.inj h))]
  by_cases hMDT : l = [77, 68, 84]
  · rw [if_pos hMDT, hMDT]; rfl
  rw [if_neg hMDT, atKey_put_other (fun h => hMDT (Lit.string.inj h))]
  by_cases hMST : l = [77, 83, 84]
  · rw [if_pos hMST, hMST]; rfl
  rw [if_neg hMST, atKey_put_other (fun h => hMST (Lit.string.inj h))]
  by_cases hCDT : l = [67, 68, 84]
  · rw [if_pos hCDT, hCDT]; rfl
  rw [if_neg hCDT, atKey_put_other (fun h => hCDT (Lit.string.inj h))]
  by_cases hCST : l = [67, 83, 84]
  · rw [if_pos hCST, hCST]; rfl
  rw [if_neg hCST, atKey_put_other (fun h => hCST (Lit.string.inj h))]
  by_cases hEDT : l = [69, 68, 84]
  · rw [if_pos hEDT, hEDT]; rfl
  rw [if_neg hEDT, atKey_put_other (fun h => hEDT (Lit.string.inj h))]
  by_cases hEST : l = [69, 83, 84]
  · rw [if_pos hEST, hEST]; rfl
  rw [if_neg hEST, atKey_put_other (fun h => hEST (Lit.string.inj h))]
  rfl
set_option maxHeartbeats 1000000 in
theorem named_calls (w : World) : Calls Tryd.prog 93 #[] w fun e w' => ∃ b, e = .returned (.map (some b)) ∧ w'.ownsMap Tryd.prog 9 (plainElem Tryd.prog 3) b 8 zoneD ∧ Below w.heap.size w w' := by
  have hmm := @run_makeMap Tryd.prog
  have B0 : Below w.heap.size w (w.alloc (.map #[] 0)) := below_alloc (Below.refl _ w) _
  go_enter Tryd.func93, Tryd.ntmps93
  go_wp2_with (first | (refine wpList_insert_own (H := Unit) _ rfl (.tmp 1) (.const (.string ⟨#[69, 83, 84]⟩)) (.const (.int .i64 (-300))) 90 rfl 9 3 key9 Tryd.underlying90 (plainElem Tryd.prog 3) w.heap.size 0 _ rfl (World.ownsMap_made _ _ _ _) (by decide) _ _ _ rfl rfl (keyOf_string_mk Tryd.underlying9 (by decide)) (.lit (.int .i64 (-300))) [] (plainElem_int Tryd.underlying3 (by decide)) ?_; intro w1 h1 g1; have B1 : Below w.heap.size w w1 := B0.grown g1 B0.size (fun k hk => by cases hk; exact Nat.le_refl _); clear B0 g1)| (refine wpList_insert_own (H := Unit) _ rfl (.tmp 1) (.const (.string ⟨#[69, 68, 84]⟩)) (.const (.int .i64 (-240))) 90 rfl 9 3 key9 Tryd.underlying90 (plainElem Tryd.prog 3) w.heap.size 1 _ rfl h1 (by decide) _ _ _ rfl rfl (keyOf_string_mk Tryd.underlying9 (by decide)) (.lit (.int .i64 (-240))) [] (plainElem_int Tryd.underlying3 (by decide)) ?_; intro w2 h2 g2; have B2 : Below w.heap.size w w2 := B1.grown g2 B1.size (fun k hk => by cases hk; exact Nat.le_refl _); clear B1 g2)| (refine wpList_insert_own (H := Unit) _ rfl (.tmp 1) (.const (.string ⟨#[67, 83, 84]⟩)) (.const (.int .i64 (-360))) 90 rfl 9 3 key9 Tryd.underlying90 (plainElem Tryd.prog 3) w.heap.size 2 _ rfl h2 (by decide) _ _ _ rfl rfl (keyOf_string_mk Tryd.underlying9 (by decide)) (.lit (.int .i64 (-360))) [] (plainElem_int Tryd.underlying3 (by decide)) ?_; intro w3 h3 g3; have B3 : Below w.heap.size w w3 := B2.grown g3 B2.size (fun k hk => by cases hk; exact Nat.le_refl _); clear B2 g3)| (refine wpList_insert_own (H := Unit) _ rfl (.tmp 1) (.const (.string ⟨#[67, 68, 84]⟩)) (.const (.int .i64 (-300))) 90 rfl 9 3 key9 Tryd.underlying90 (plainElem Tryd.prog 3) w.heap.size 3 _ rfl h3 (by decide) _ _ _ rfl rfl (keyOf_string_mk Tryd.underlying9 (by decide)) (.lit (.int .i64 (-300))) [] (plainElem_int Tryd.underlying3 (by decide)) ?_; intro w4 h4 g4; have B4 : Below w.heap.size w w4 := B3.grown g4 B3.size (fun k hk => by cases hk; exact Nat.le_refl _); clear B3 g4)| (refine wpList_insert_own (H := Unit) _ rfl (.tmp 1) (.const (.string ⟨#[77, 83, 84]⟩)) (.const (.int .i64 (-420))) 90 rfl 9 3 key9 Tryd.underlying90 (plainElem Tryd.prog 3) w.heap.size 4 _ rfl h4 (by decide) _ _ _ rfl rfl (keyOf_string_mk Tryd.underlying9 (by decide)) (.lit (.int .i64 (-420))) [] (plainElem_int Tryd.underlying3 (by decide)) ?_; intro w5 h5 g5; have B5 : Below w.heap.size w w5 := B4.grown g5 B4.size (fun k hk => by cases hk; exact Nat.le_refl _); clear B4 g5)| (refine wpList_insert_own (H := Unit) _ rfl (.tmp 1) (.const (.string ⟨#[77, 68, 84]⟩)) (.const (.int .i64 (-360))) 90 rfl 9 3 key9 Tryd.underlying90 (plainElem Tryd.prog 3) w.heap.size 5 _ rfl h5 (by decide) _ _ _ rfl rfl (keyOf_string_mk Tryd.underlying9 (by decide)) (.lit (.int .i64 (-360))) [] (plainElem_int Tryd.underlying3 (by decide)) ?_; intro w6 h6 g6; have B6 : Below w.heap.size w w6 := B5.grown g6 B5.size (fun k hk => by cases hk; exact Nat.le_refl _); clear B5 g6)| (refine wpList_insert_own (H := Unit) _ rfl (.tmp 1) (.const (.string ⟨#[80, 83, 84]⟩)) (.const (.int .i64 (-480))) 90 rfl 9 3 key9 Tryd.underlying90 (plainElem Tryd.prog 3) w.heap.size 6 _ rfl h6 (by decide) _ _ _ rfl rfl (keyOf_string_mk Tryd.underlying9 (by decide)) (.lit (.int .i64 (-480))) [] (plainElem_int Tryd.underlying3 (by decide)) ?_; intro w7 h7 g7; have B7 : Below w.heap.size w w7 := B6.grown g7 B6.size (fun k hk => by cases hk; exact Nat.le_refl _); clear B6 g7)| (refine wpList_insert_own (H := Unit) _ rfl (.tmp 1) (.const (.string ⟨#[80, 68, 84]⟩)) (.const (.int .i64 (-420))) 90 rfl 9 3 key9 Tryd.underlying90 (plainElem Tryd.prog 3) w.heap.size 7 _ rfl h7 (by decide) _ _ _ rfl rfl (keyOf_string_mk Tryd.underlying9 (by decide)) (.lit (.int .i64 (-420))) [] (plainElem_int Tryd.underlying3 (by decide)) ?_; intro w8 h8 g8; have B8 : Below w.heap.size w w8 := B7.grown g8 B7.size (fun k hk => by cases hk; exact Nat.le_refl _); clear B7 g8))
  go_ret
  exact ⟨_, rfl, h8, B8⟩
theorem named_look {w : World} {b : Nat} (h : w.ownsMap Tryd.prog 9 (plainElem Tryd.prog 3) b 8 zoneD) (x : ByteArray) (hx : x.size ≤ 9223372036854775807) :
    (Instr.lookup 90 (.map (some b)) (.string x) false).run Tryd.prog w = .ok (.int .i64 (zoneL x.data.toList)) w := by
  obtain ⟨c, h1, h2, _⟩ := h.lookup_int key9 Tryd.underlying90 Tryd.underlying3 (zero3 w) (keyOf_string_mk (s := x) Tryd.underlying9 hx)
  rw [zoneD_at] at h2
  have h3 : zoneL x.data.toList = c := by simpa using h2
  rw [h1, h3]
end Go.Proofs.YtjlchnmpebdggaaDoor.Mo
end
section
namespace Go.Proofs.YtjlchnmpebdggaaDoor.Mo
open Go.RowKit Go.Proofs.YtjlchnmpebdggaaDoorW.PrintWords
def zoneCP (q : St) : Int × Bool := if q.2.1 = 3 then zoneT q.2.2 else if q.2.1 = 1 then (zoneL (upperP q.2.2).data.toList, true) else (0, true)
def zoneCS (s : ByteArray) (q : St) : St := if q.2.1 = 3 ∨ q.2.1 = 1 then nx s q else q
set_option maxHeartbeats 1000000 in
theorem zoneC_calls (c t : Nat) (s : ByteArray) (q : St) (w : World) (hs : s.size ≤ 140737488351232) (hi : q.1 ≤ s.size) (hx : q.2.2.size ≤ 140737488351232) (hc : CurS c t s q w) (hcl : c < w.heap.size) :
    Calls Tryd.prog 59 #[.pointer (some ⟨c, 0, none⟩)] w fun e w' => e = .returned (.tuple #[.int .i64 (zoneCP q).1, .bool (zoneCP q).2]) ∧ CurS c t s (zoneCS s q) w' ∧ Turned c w w' := by
  obtain ⟨i, k, x⟩ := q
  obtain ⟨c0, c1, c2, c3, z1, z2, z3⟩ := cur4 hc
  have HC := Lib.hid hc
  clear hc
  have HNX := Lib.hid (fun w h => nx_calls c t s (i, k, x) w hs hi h)
  by_cases hk : k = 3
  · have e1 : zoneCP (i, k, x) = zoneT x := if_pos hk
    have e2 : zoneCS s (i, k, x) = nx s (i, k, x) := if_pos (.inl hk)
    rw [e1, e2]
    have hg : (k == 3) = true := by rw [beq_iff_eq]; exact hk
    have hz := zone_f 10 (by omega) x
    obtain ⟨Z1, Z2, hZ⟩ : ∃ Z1 Z2, zoneT x = (Z1, Z2) := ⟨_, _, rfl⟩
    rw [hZ] at hz ⊢
    generalize nx s (i, k, x) = q1 at *
    dsimp only
    have HZ := Lib.hid hz
    clear e1 e2 hk hx hz hZ
    go_enter Tryd.func59, Tryd.ntmps59
    go_wp2_with (go_at_call 71; refine (moment_zone.calls 10 x Z1 Z2 _ HZ.out).mono ?_; rintro e w1 ⟨rfl, ⟨nd, rfl⟩⟩)
    refine (HNX.out _ (by exact HC.out)).mono ?_
    rintro e w4 ⟨rfl, h1, h2⟩
    have H1 := Lib.hid h1
    have H2 := Lib.hid ((Turned.refl c w).drewN nd |>.trans h2)
    clear h1 h2 c0 c1 c2 c3 z1 z2 z3 HC
    go_wp2
    go_ret2
    exact ⟨rfl, H1.out, H2.out⟩
  · have hg3 : (k == 3) = false := by rw [beq_eq_false_iff_ne]; exact hk
    by_cases hk1 : k = 1
    · have e1 : zoneCP (i, k, x) = (zoneL (upperP x).data.toList, true) := by unfold zoneCP; rw [if_neg hk, if_pos hk1]
      have e2 : zoneCS s (i, k, x) = nx s (i, k, x) := if_pos (.inr hk1)
      rw [e1, e2]
      have hg : (k == 1) = true := by rw [beq_iff_eq]; exact hk1
      generalize nx s (i, k, x) = q1 at *
      dsimp only
      have hx' : x.size ≤ 140737488351232 := hx
      have hus := upperP_size x
      clear e1 e2 hk hk1 hx
      go_enter Tryd.func59, Tryd.ntmps59
      go_wp2_with fail
      go_region_with ((first | (go_at_call 93; refine (named_calls _).mono ?_; rintro e w1 ⟨b, rfl, hm, hb1⟩; have HM := Lib.hid hm; have HB1 := Lib.hid hb1; have d3 := pw_cell_below HB1.out (a := ⟨c, 3, none⟩) (v := .string x) (by first | assumption | go_simp); clear hm hb1) | (go_at_call 94; refine (upper_calls x _ hx').mono ?_; rintro e w2 ⟨rfl, hb2⟩; have HB2 := Lib.hid hb2; clear hb2; have hlk := named_look (HM.out.kept (grown_of_below HB2.out none) (by simp)) (upperP x) (by rw [hus]; omega))))
      all_goals
        go_wp2_with fail
        have hT : Turned c w w2 := by repeat (first | (with_reducible exact Turned.refl c w) | (with_reducible refine Turned.made ?_ HB2.out) | (with_reducible refine Turned.made ?_ HB1.out) | (with_reducible refine Turned.drew ?_) | (with_reducible refine Turned.drewN ?_ _))
        have hC : CurS c t s (i, k, x) w2 := (HB2.out.block c (Nat.lt_of_lt_of_le (by exact hcl) HB1.out.size)).trans ((HB1.out.block c (by exact hcl)).trans HC.out)
        have HT := Lib.hid hT
        clear hlk hT d3 c0 c1 c2 c3 z1 z2 z3
        refine (HNX.out _ hC).mono ?_
        rintro e w4 ⟨rfl, h1, h2⟩
        have H1 := Lib.hid h1
        have H2 := Lib.hid (HT.out.trans h2)
        clear h1 h2 hC
        go_wp2
        go_ret2
        exact ⟨rfl, H1.out, H2.out⟩
    · have e1 : zoneCP (i, k, x) = (0, true) := by unfold zoneCP; rw [if_neg hk, if_neg hk1]
      have e2 : zoneCS s (i, k, x) = (i, k, x) := if_neg (fun h => h.elim hk hk1)
      rw [e1, e2]
      have hg : (k == 1) = false := by rw [beq_eq_false_iff_ne]; exact hk1
      clear e1 e2 hx
      go_enter Tryd.func59, Tryd.ntmps59
      go_wp2
      go_ret2
      exact ⟨rfl, HC.out, Turned.refl _ _⟩
end Go.Proofs.YtjlchnmpebdggaaDoor.Mo
end
section
namespace Go.Proofs.YtjlchnmpebdggaaDoor.Mo
open Go.RowKit Go.Proofs.YtjlchnmpebdggaaDoorW.PrintWords
def OkQ (s : ByteArray) (q : St) : Prop := q.1 ≤ s.size ∧ q.2.2.size ≤ s.size
theorem okq_nx {s : ByteArray} {q : St} (h : OkQ s q) : OkQ s (nx s q) := ⟨nx_le s q h.1, nx_text s q⟩
theorem okq_week {s : ByteArray} {q : St} (h : OkQ s q) : OkQ s (weekS s q) := by
  unfold weekS; split
  · exact okq_nx (okq_nx h)
  · exact h
theorem okq_second {s : ByteArray} {q : St} (h : OkQ s q) : OkQ s (secondS s q) := by
  unfold secondS; split
  · exact okq_nx (okq_nx h)
  · exact h
def hq1 (s : ByteArray) : St := nx s (0, 0, ⟨#[]⟩)
def hq2 (s : ByteArray) : St := weekS s (hq1 s)
def hq3 (s : ByteArray) : St := nx s (hq2 s)
def hq4 (s : ByteArray) : St := nx s (hq3 s)
def hq5 (s : ByteArray) : St := nx s (hq4 s)
def hq6 (s : ByteArray) : St := nx s (hq5 s)
def hq7 (s : ByteArray) : St := nx s (hq6 s)
def hq8 (s : ByteArray) : St := nx s (hq7 s)
def hq9 (s : ByteArray) : St := secondS s (hq8 s)
def hq10 (s : ByteArray) : St := zoneCS s (hq9 s)
def headB (s : ByteArray) : List Bool := [weekP s (hq1 s), (shortP 99 (hq2 s)).2, (monthP (hq3 s)).2, (yearP (hq4 s)).2, (shortP 23 (hq5 s)).2, (hq6 s).2.1 == 5, (shortP 59 (hq7 s)).2, (secondP s (hq8 s)).2]
def headOk (s : ByteArray) : Bool := ((zoneCP (hq9 s)).2 && (headB s).all id) && (hq10 s).2.1 == 0
def moment_ReadHeader.f (s : ByteArray) : Option (Int × Int × Int × Int × Int × Int × Int × Int) :=
  if s.size ≤ 140737488351232 then moment_read.f (yearP (hq4 s)).1 (monthP (hq3 s)).1 (shortP 99 (hq2 s)).1 (shortP 23 (hq5 s)).1 (shortP 59 (hq7 s)).1 (secondP s (hq8 s)).1 (zoneCP (hq9 s)).1 (headOk s) else none
def zeros7 : Array Value := #[.int .i64 0, .int .i64 0, .int .i64 0, .int .i64 0, .int .i64 0, .int .i64 0, .int .i64 0]
theorem curS_lt {c t : Nat} {s : ByteArray} {q : St} {w : World} (h : CurS c t s q w) : c < w.heap.size := by unfold CurS Cur at h; exact blk_lt h
structure RH (w : World) (R C M K : Nat) (s : ByteArray) (q : St) (mv kv : Array Value) (W : World) : Prop where
  cur : CurS C 61 s q W
  res : W.heap[R]? = some (.cells zeros7 23 (0, 0))
  mom : W.heap[M]? = some (.cells mv 23 (0, 0))
  oks : W.heap[K]? = some (.cells kv 62 (0, 0))
  below : Below w.heap.size w W
  rc : R < C
  cm : C < M
  lt3 : M < K
  wr : w.heap.size ≤ R
theorem RH.turn {w W W' : World} {R C M K : Nat} {s : ByteArray} {q q' : St} {mv kv : Array Value} (h : RH w R C M K s q mv kv W) (hc : CurS C 61 s q' W') (hT : Turned C W W') : RH w R C M K s q' mv kv W' :=
  ⟨hc, (hT.other R (blk_lt h.res) (Nat.ne_of_lt h.rc)).trans h.res, (hT.other M (blk_lt h.mom) (Nat.ne_of_gt h.cm)).trans h.mom, (hT.other K (blk_lt h.oks) (Nat.ne_of_gt (Nat.lt_trans h.cm h.lt3))).trans h.oks,
    hT.below _ _ h.below (Nat.le_of_lt (Nat.lt_of_le_of_lt h.wr h.rc)) h.below.size, h.rc, h.cm, h.lt3, h.wr⟩
theorem RH.mset {w W : World} {R C M K : Nat} {s : ByteArray} {q : St} {mv kv : Array Value} (h : RH w R C M K s q mv kv W) (j : Nat) (v : Value) (mv' : Array Value) (e : mv.setIfInBounds j v = mv') : RH w R C M K s q mv' kv (W.setCell ⟨M, j, none⟩ v) :=
  have h1 := h.rc
  have h2 := h.cm
  have h3 := h.lt3
  have h4 := h.wr
  ⟨(heap_setCell_other _ _ _ _ (Nat.ne_of_lt h2)).trans h.cur, (heap_setCell_other _ _ _ _ (Nat.ne_of_lt (Nat.lt_trans h1 h2))).trans h.res, blk_put h.mom j v e, (heap_setCell_other _ _ _ _ (Nat.ne_of_gt h3)).trans h.oks, h.below.setCell (p := ⟨M, j, none⟩) (by show w.heap.size ≤ M; omega) v, h1, h2, h3, h4⟩
theorem RH.kset {w W : World} {R C M K : Nat} {s : ByteArray} {q : St} {mv kv : Array Value} (h : RH w R C M K s q mv kv W) (j : Nat) (v : Value) (kv' : Array Value) (e : kv.setIfInBounds j v = kv') : RH w R C M K s q mv kv' (W.setCell ⟨K, j, none⟩ v) :=
  have h1 := h.rc
  have h2 := h.cm
  have h3 := h.lt3
  have h4 := h.wr
  ⟨(heap_setCell_other _ _ _ _ (Nat.ne_of_lt (Nat.lt_trans h2 h3))).trans h.cur, (heap_setCell_other _ _ _ _ (Nat.ne_of_lt (Nat.lt_trans h1 (Nat.lt_trans h2 h3)))).trans h.res, (heap_setCell_other _ _ _ _ (Nat.ne_of_lt h3)).trans h.mom, blk_put h.oks j v e, h.below.setCell (p := ⟨K, j, none⟩) (by show w.heap.size ≤ K; omega) v, h1, h2, h3, h4⟩
theorem RH.mcell {w W : World} {R C M K : Nat} {s : ByteArray} {q : St} {mv kv : Array Value} (h : RH w R C M K s q mv kv W) (j : Nat) : W.cell? ⟨M, j, none⟩ = mv[j]? ∧ W.frozen? ⟨M, j, none⟩ = false := ⟨blk_cell h.mom j, blk_frozen h.mom j⟩
theorem RH.kcell {w W : World} {R C M K : Nat} {s : ByteArray} {q : St} {mv kv : Array Value} (h : RH w R C M K s q mv kv W) (j : Nat) : W.cell? ⟨K, j, none⟩ = kv[j]? ∧ W.frozen? ⟨K, j, none⟩ = false := ⟨blk_cell h.oks j, blk_frozen h.oks j⟩
theorem bools_index (w : World) (b0 b1 b2 b3 b4 b5 b6 b7 : Bool) (n : Nat) (h : n < 8) : (Instr.index 62 (.agg #[.bool b0, .bool b1, .bool b2, .bool b3, .bool b4, .bool b5, .bool b6, .bool b7]) (.int .i64 (n : Int))).run Tryd.prog w = .ok (.bool ([b0, b1, b2, b3, b4, b5, b6, b7].getD n false)) w := by
  have : n = 0 ∨ n = 1 ∨ n = 2 ∨ n = 3 ∨ n = 4 ∨ n = 5 ∨ n = 6 ∨ n = 7 := by omega
  rcases this with rfl | rfl | rfl | rfl | rfl | rfl | rfl | rfl <;> (show _ = _; kernel_rfl)
set_option maxHeartbeats 4000000 in
set_option maxRecDepth 100000 in
theorem readHeader_calls (s : ByteArray) (r1 r2 r3 r4 r5 r6 r7 r8 : Int) (w : World) (hs : s.size ≤ 140737488351232)
    (h : moment_read.f (yearP (hq4 s)).1 (monthP (hq3 s)).1 (shortP 99 (hq2 s)).1 (shortP 23 (hq5 s)).1 (shortP 59 (hq7 s)).1 (secondP s (hq8 s)).1 (zoneCP (hq9 s)).1 (headOk s) = some (r1, r2, r3, r4, r5, r6, r7, r8)) (hL : Laid w) :
    Calls Tryd.prog 27 #[.string s] w fun e w' => e = .returned (.tuple #[.agg #[.int .i64 r1, .int .i64 r2, .int .i64 r3, .int .i64 r4, .int .i64 r5, .int .i64 r6, .int .i64 r7], .int .i64 r8]) ∧ Below w.heap.size w w' := by
  have O1 := Lib.hid (show OkQ s (hq1 s) from okq_nx ⟨Nat.zero_le _, Nat.zero_le _⟩)
  have O2 := Lib.hid (show OkQ s (hq2 s) from okq_week O1.out)
  have O3 := Lib.hid (show OkQ s (hq3 s) from okq_nx O2.out)
  have O4 := Lib.hid (show OkQ s (hq4 s) from okq_nx O3.out)
  have O5 := Lib.hid (show OkQ s (hq5 s) from okq_nx O4.out)
  have O6 := Lib.hid (show OkQ s (hq6 s) from okq_nx O5.out)
  have O7 := Lib.hid (show OkQ s (hq7 s) from okq_nx O6.out)
  have O8 := Lib.hid (show OkQ s (hq8 s) from okq_nx O7.out)
  have O9 := Lib.hid (show OkQ s (hq9 s) from okq_second O8.out)
  have HR := Lib.hid h
  have HL := Lib.hid hL
  clear h hL
  go_enter Tryd.func27, Tryd.ntmps27
  go_wp2_with fail
  have hcur : CurS (w.heap.size + 1) 61 s (0, 0, ⟨#[]⟩) ((w.alloc (.cells zeros7 23)).alloc (.cells #[.string s, .int .i64 0, .int .i64 0, .string ⟨#[]⟩] 61)) := by
    have := heap_alloc_new (w.alloc (.cells zeros7 23)) (.cells #[.string s, .int .i64 0, .int .i64 0, .string ⟨#[]⟩] 61)
    rw [show (w.alloc (.cells zeros7 23)).heap.size = w.heap.size + 1 from by simp] at this
    exact this
  refine (nx_calls (w.heap.size + 1) 61 s (0, 0, ⟨#[]⟩) _ hs (Nat.zero_le _) hcur).mono ?_
  rintro e w1 ⟨rfl, hc1, ht1⟩
  have hres1 : w1.heap[w.heap.size]? = some (.cells zeros7 23 (0, 0)) := by
    rw [ht1.other w.heap.size (by simp; omega) (by omega), Below.heap_alloc _ _ _ (by simp)]; exact heap_alloc_new _ _
  have hb1 : Below w.heap.size w w1 := ht1.below _ _ (below_alloc (below_alloc (Below.refl _ w) _) _) (by omega) (by simp; omega)
  have hlt1 := blk_lt hc1
  have HR1 := Lib.hid hres1
  have HB1 := Lib.hid hb1
  have HC1 := Lib.hid hc1
  clear hcur ht1 hres1 hb1 hc1
  go_wp2_with fail
  have H : Hid (RH w w.heap.size (w.heap.size + 1) w1.heap.size (w1.heap.size + 1) s (hq1 s) #[.int .i64 0, .int .i64 0, .int .i64 0, .int .i64 0, .int .i64 0, .int .i64 0, .int .i64 0] #[.bool false, .bool false, .bool false, .bool false, .bool false, .bool false, .bool false, .bool false] ((w1.alloc (.cells #[.int .i64 0, .int .i64 0, .int .i64 0, .int .i64 0, .int .i64 0, .int .i64 0, .int .i64 0] 23)).alloc (.cells #[.bool false, .bool false, .bool false, .bool false, .bool false, .bool false, .bool false, .bool false] 62))) := Lib.hid (by
    refine ⟨?_, ?_, ?_, ?_, below_alloc (below_alloc HB1.out _) _, by omega, by omega, by omega, Nat.le_refl _⟩
    · exact (Below.heap_alloc _ _ _ (by simp; omega)).trans ((Below.heap_alloc _ _ _ hlt1).trans HC1.out)
    · exact (Below.heap_alloc _ _ _ (by simp; omega)).trans ((Below.heap_alloc _ _ _ (by omega)).trans HR1.out)
    · exact (Below.heap_alloc _ _ _ (by simp)).trans (heap_alloc_new _ _)
    · have := heap_alloc_new (w1.alloc (.cells #[.int .i64 0, .int .i64 0, .int .i64 0, .int .i64 0, .int .i64 0, .int .i64 0, .int .i64 0] 23)) (.cells #[.bool false, .bool false, .bool false, .bool false, .bool false, .bool false, .bool false, .bool false] 62)
      rw [show (w1.alloc (.cells #[.int .i64 0, .int .i64 0, .int .i64 0, .int .i64 0, .int .i64 0, .int .i64 0, .int .i64 0] 23)).heap.size = w1.heap.size + 1 from by simp] at this
      exact this)
  clear HR1 HB1 HC1
  generalize (w1.alloc (Obj.cells #[.int .i64 0, .int .i64 0, .int .i64 0, .int .i64 0, .int .i64 0, .int .i64 0, .int .i64 0] 23)).alloc (Obj.cells #[.bool false, .bool false, .bool false, .bool false, .bool false, .bool false, .bool false, .bool false] 62) = W at *
  generalize w.heap.size + 1 = C at *
  generalize w1.heap.size = M at *
  generalize M + 1 = K at *
  refine (week_calls C 61 s (hq1 s) _ hs O1.out.1 (Nat.le_trans O1.out.2 hs) H.out.cur (curS_lt H.out.cur)).mono ?_
  rintro e w2 ⟨rfl, hc, ht⟩
  have H2 := Lib.hid (RH.turn (q' := hq2 s) H.out hc ht)
  clear hc ht H
  obtain ⟨ck, zk⟩ := H2.out.kcell 0
  replace ck : w2.cell? ⟨K, 0, none⟩ = some (.bool false) := ck
  obtain ⟨B0, eB0⟩ : ∃ x, weekP s (hq1 s) = x := ⟨_, rfl⟩
  rw [eB0]
  have EB0 := Lib.hid eB0
  clear eB0
  go_wp2_with fail
  have H := Lib.hid (H2.out.kset 0 (.bool B0) #[.bool B0, .bool false, .bool false, .bool false, .bool false, .bool false, .bool false, .bool false] rfl)
  clear H2 ck zk
  generalize w2.setCell ⟨K, 0, none⟩ (.bool B0) = W at *
  refine (short_calls C 61 s (hq2 s) 99 _ hs O2.out.1 H.out.cur).mono ?_
  rintro e w3 ⟨rfl, hc, ht⟩
  have H3 := Lib.hid (RH.turn (q' := hq3 s) H.out hc ht)
  clear hc ht H
  obtain ⟨cm, zm⟩ := H3.out.mcell 2
  obtain ⟨ck, zk⟩ := H3.out.kcell 1
  replace cm : w3.cell? ⟨M, 2, none⟩ = some (.int .i64 0) := cm
  replace ck : w3.cell? ⟨K, 1, none⟩ = some (.bool false) := ck
  obtain ⟨D, eD⟩ : ∃ x, (shortP 99 (hq2 s)).1 = x := ⟨_, rfl⟩
  obtain ⟨B1, eB1⟩ : ∃ x, (shortP 99 (hq2 s)).2 = x := ⟨_, rfl⟩
  rw [eD, eB1]
  have ED := Lib.hid eD
  have EB1 := Lib.hid eB1
  clear eD eB1
  go_wp2_with fail
  have H := Lib.hid ((H3.out.mset 2 (.int .i64 D) #[.int .i64 0, .int .i64 0, .int .i64 D, .int .i64 0, .int .i64 0, .int .i64 0, .int .i64 0] rfl).kset 1 (.bool B1) #[.bool B0, .bool B1, .bool false, .bool false, .bool false, .bool false, .bool false, .bool false] rfl)
  clear H3 cm zm ck zk
  generalize (w3.setCell ⟨M, 2, none⟩ (.int .i64 D)).setCell ⟨K, 1, none⟩ (.bool B1) = W at *
  refine (month_calls C 61 s (hq3 s) _ hs O3.out.1 (Nat.le_trans O3.out.2 hs) H.out.cur (curS_lt H.out.cur)).mono ?_
  rintro e w4 ⟨rfl, hc, ht⟩
  have H4 := Lib.hid (RH.turn (q' := hq4 s) H.out hc ht)
  clear hc ht H
  obtain ⟨cm, zm⟩ := H4.out.mcell 1
  obtain ⟨ck, zk⟩ := H4.out.kcell 2
  replace cm : w4.cell? ⟨M, 1, none⟩ = some (.int .i64 0) := cm
  replace ck : w4.cell? ⟨K, 2, none⟩ = some (.bool false) := ck
  obtain ⟨Mo, eMo⟩ : ∃ x, (monthP (hq3 s)).1 = x := ⟨_, rfl⟩
  obtain ⟨B2, eB2⟩ : ∃ x, (monthP (hq3 s)).2 = x := ⟨_, rfl⟩
  rw [eMo, eB2]
  have EMo := Lib.hid eMo
  have EB2 := Lib.hid eB2
  clear eMo eB2
  go_wp2_with fail
  have H := Lib.hid ((H4.out.mset 1 (.int .i64 Mo) #[.int .i64 0, .int .i64 Mo, .int .i64 D, .int .i64 0, .int .i64 0, .int .i64 0, .int .i64 0] rfl).kset 2 (.bool B2) #[.bool B0, .bool B1, .bool B2, .bool false, .bool false, .bool false, .bool false, .bool false] rfl)
  clear H4 cm zm ck zk
  generalize (w4.setCell ⟨M, 1, none⟩ (.int .i64 Mo)).setCell ⟨K, 2, none⟩ (.bool B2) = W at *
  refine (year_calls C 61 s (hq4 s) _ hs O4.out.1 H.out.cur).mono ?_
  rintro e w5 ⟨rfl, hc, ht⟩
  have H5 := Lib.hid (RH.turn (q' := hq5 s) H.out hc ht)
  clear hc ht H
  obtain ⟨cm, zm⟩ := H5.out.mcell 0
  obtain ⟨ck, zk⟩ := H5.out.kcell 3
  replace cm : w5.cell? ⟨M, 0, none⟩ = some (.int .i64 0) := cm
  replace ck : w5.cell? ⟨K, 3, none⟩ = some (.bool false) := ck
  obtain ⟨Y, eY⟩ : ∃ x, (yearP (hq4 s)).1 = x := ⟨_, rfl⟩
  obtain ⟨B3, eB3⟩ : ∃ x, (yearP (hq4 s)).2 = x := ⟨_, rfl⟩
  rw [eY, eB3]
  have EY := Lib.hid eY
  have EB3 := Lib.hid eB3
  clear eY eB3
  go_wp2_with fail
  have H := Lib.hid ((H5.out.mset 0 (.int .i64 Y) #[.int .i64 Y, .int .i64 Mo, .int .i64 D, .int .i64 0, .int .i64 0, .int .i64 0, .int .i64 0] rfl).kset 3 (.bool B3) #[.bool B0, .bool B1, .bool B2, .bool B3, .bool false, .bool false, .bool false, .bool false] rfl)
  clear H5 cm zm ck zk
  generalize (w5.setCell ⟨M, 0, none⟩ (.int .i64 Y)).setCell ⟨K, 3, none⟩ (.bool B3) = W at *
  refine (short_calls C 61 s (hq5 s) 23 _ hs O5.out.1 H.out.cur).mono ?_
  rintro e w6 ⟨rfl, hc, ht⟩
  have H6 := Lib.hid (RH.turn (q' := hq6 s) H.out hc ht)
  clear hc ht H
  obtain ⟨cm, zm⟩ := H6.out.mcell 3
  obtain ⟨ck, zk⟩ := H6.out.kcell 4
  replace cm : w6.cell? ⟨M, 3, none⟩ = some (.int .i64 0) := cm
  replace ck : w6.cell? ⟨K, 4, none⟩ = some (.bool false) := ck
  obtain ⟨Hh, eHh⟩ : ∃ x, (shortP 23 (hq5 s)).1 = x := ⟨_, rfl⟩
  obtain ⟨B4, eB4⟩ : ∃ x, (shortP 23 (hq5 s)).2 = x := ⟨_, rfl⟩
  rw [eHh, eB4]
  have EHh := Lib.hid eHh
  have EB4 := Lib.hid eB4
  clear eHh eB4
  go_wp2_with fail
  have H := Lib.hid ((H6.out.mset 3 (.int .i64 Hh) #[.int .i64 Y, .int .i64 Mo, .int .i64 D, .int .i64 Hh, .int .i64 0, .int .i64 0, .int .i64 0] rfl).kset 4 (.bool B4) #[.bool B0, .bool B1, .bool B2, .bool B3, .bool B4, .bool false, .bool false, .bool false] rfl)
  clear H6 cm zm ck zk
  generalize (w6.setCell ⟨M, 3, none⟩ (.int .i64 Hh)).setCell ⟨K, 4, none⟩ (.bool B4) = W at *
  refine (sign_calls C 61 s (hq6 s) 5 _ hs O6.out.1 H.out.cur).mono ?_
  rintro e w7 ⟨rfl, hc, ht⟩
  have H7 := Lib.hid (RH.turn (q' := hq7 s) H.out hc ht)
  clear hc ht H
  obtain ⟨ck, zk⟩ := H7.out.kcell 5
  replace ck : w7.cell? ⟨K, 5, none⟩ = some (.bool false) := ck
  obtain ⟨B5, eB5⟩ : ∃ x, ((hq6 s).2.1 == 5) = x := ⟨_, rfl⟩
  rw [eB5]
  have EB5 := Lib.hid eB5
  clear eB5
  go_wp2_with fail
  have H := Lib.hid (H7.out.kset 5 (.bool B5) #[.bool B0, .bool B1, .bool B2, .bool B3, .bool B4, .bool B5, .bool false, .bool false] rfl)
  clear H7 ck zk
  generalize w7.setCell ⟨K, 5, none⟩ (.bool B5) = W at *
  refine (short_calls C 61 s (hq7 s) 59 _ hs O7.out.1 H.out.cur).mono ?_
  rintro e w8 ⟨rfl, hc, ht⟩
  have H8 := Lib.hid (RH.turn (q' := hq8 s) H.out hc ht)
  clear hc ht H
  obtain ⟨cm, zm⟩ := H8.out.mcell 4
  obtain ⟨ck, zk⟩ := H8.out.kcell 6
  replace cm : w8.cell? ⟨M, 4, none⟩ = some (.int .i64 0) := cm
  replace ck : w8.cell? ⟨K, 6, none⟩ = some (.bool false) := ck
  obtain ⟨Mi, eMi⟩ : ∃ x, (shortP 59 (hq7 s)).1 = x := ⟨_, rfl⟩
  obtain ⟨B6, eB6⟩ : ∃ x, (shortP 59 (hq7 s)).2 = x := ⟨_, rfl⟩
  rw [eMi, eB6]
  have EMi := Lib.hid eMi
  have EB6 := Lib.hid eB6
  clear eMi eB6
  go_wp2_with fail
  have H := Lib.hid ((H8.out.mset 4 (.int .i64 Mi) #[.int .i64 Y, .int .i64 Mo, .int .i64 D, .int .i64 Hh, .int .i64 Mi, .int .i64 0, .int .i64 0] rfl).kset 6 (.bool B6) #[.bool B0, .bool B1, .bool B2, .bool B3, .bool B4, .bool B5, .bool B6, .bool false] rfl)
  clear H8 cm zm ck zk
  generalize (w8.setCell ⟨M, 4, none⟩ (.int .i64 Mi)).setCell ⟨K, 6, none⟩ (.bool B6) = W at *
  refine (second_calls C 61 s (hq8 s) _ hs O8.out.1 H.out.cur).mono ?_
  rintro e w9 ⟨rfl, hc, ht⟩
  have H9 := Lib.hid (RH.turn (q' := hq9 s) H.out hc ht)
  clear hc ht H
  obtain ⟨cm, zm⟩ := H9.out.mcell 5
  obtain ⟨ck, zk⟩ := H9.out.kcell 7
  replace cm : w9.cell? ⟨M, 5, none⟩ = some (.int .i64 0) := cm
  replace ck : w9.cell? ⟨K, 7, none⟩ = some (.bool false) := ck
  obtain ⟨Se, eSe⟩ : ∃ x, (secondP s (hq8 s)).1 = x := ⟨_, rfl⟩
  obtain ⟨B7, eB7⟩ : ∃ x, (secondP s (hq8 s)).2 = x := ⟨_, rfl⟩
  rw [eSe, eB7]
  have ESe := Lib.hid eSe
  have EB7 := Lib.hid eB7
  clear eSe eB7
  go_wp2_with fail
  have H := Lib.hid ((H9.out.mset 5 (.int .i64 Se) #[.int .i64 Y, .int .i64 Mo, .int .i64 D, .int .i64 Hh, .int .i64 Mi, .int .i64 Se, .int .i64 0] rfl).kset 7 (.bool B7) #[.bool B0, .bool B1, .bool B2, .bool B3, .bool B4, .bool B5, .bool B6, .bool B7] rfl)
  clear H9 cm zm ck zk
  generalize (w9.setCell ⟨M, 5, none⟩ (.int .i64 Se)).setCell ⟨K, 7, none⟩ (.bool B7) = W at *
  refine (zoneC_calls C 61 s (hq9 s) _ hs O9.out.1 (Nat.le_trans O9.out.2 hs) H.out.cur (curS_lt H.out.cur)).mono ?_
  rintro e w10 ⟨rfl, hc, ht⟩
  have H10 := Lib.hid (RH.turn (q' := hq10 s) H.out hc ht)
  clear hc ht H
  obtain ⟨cm, zm⟩ := H10.out.mcell 6
  replace cm : w10.cell? ⟨M, 6, none⟩ = some (.int .i64 0) := cm
  obtain ⟨Z, eZ⟩ : ∃ x, (zoneCP (hq9 s)).1 = x := ⟨_, rfl⟩
  obtain ⟨BZ, eBZ⟩ : ∃ x, (zoneCP (hq9 s)).2 = x := ⟨_, rfl⟩
  rw [eZ, eBZ]
  have EZ := Lib.hid eZ
  have EBZ := Lib.hid eBZ
  clear eZ eBZ
  go_upto_region 15 with fail
  have H := Lib.hid (H10.out.mset 6 (.int .i64 Z) #[.int .i64 Y, .int .i64 Mo, .int .i64 D, .int .i64 Hh, .int .i64 Mi, .int .i64 Se, .int .i64 Z] rfl)
  clear H10 cm zm
  generalize w10.setCell ⟨M, 6, none⟩ (.int .i64 Z) = W at *
  go_wp2_with (refine wpList_load_row rfl 62 (.tmp 6) rfl K rfl 62 #[.bool B0, .bool B1, .bool B2, .bool B3, .bool B4, .bool B5, .bool B6, .bool B7] (0, 0) _ H.out.oks Tryd.underlying62 rfl (by kernel_rfl) ?_)
  have hBLs : [B0, B1, B2, B3, B4, B5, B6, B7].length = 8 := rfl
  have HX := Lib.hid (fun (W' : World) (n : Nat) (hn : n < 8) => bools_index W' B0 B1 B2 B3 B4 B5 B6 B7 n hn)
  obtain ⟨BL, hBL⟩ : ∃ BL, BL = [B0, B1, B2, B3, B4, B5, B6, B7] := ⟨_, rfl⟩
  rw [← hBL] at HX hBLs
  have HBL := Lib.hid hBL
  clear hBL
  go_loopw [8, 72] (fun v8 v72 wr => ∃ n : Nat, n ≤ 8 ∧ v72 = .int .i64 n ∧ v8 = .bool (BZ && (BL.take n).all id) ∧ wr = W) (fun _ v72 _ => 8 - (intOf v72).toNat)
  case atStart => exact ⟨0, by omega, rfl, by simp, rfl⟩
  case round =>
    obtain ⟨n, hn, rfl, rfl, rfl⟩ := hrel
    by_cases hlt : n < 8
    · have hix := fun W' => HX.out W' n hlt
      have hsn : Hid ((BZ && (BL.take (n + 1)).all id) = ((BZ && (BL.take n).all id) && BL.getD n false)) := Lib.hid (by
        rw [List.take_succ_eq_append_getElem (by omega), List.all_append, List.getD_eq_getElem?_getD, List.getElem?_eq_getElem (by omega)]
        simp [Bool.and_assoc])
      generalize (BZ && (BL.take n).all id) = p at *
      generalize BL.getD n false = X at *
      clear EB0 EB1 EB2 EB3 EB4 EB5 EB6 EB7 EY EMo ED EHh EMi ESe EZ EBZ O1 O2 O3 O4 O5 O6 O7 O8 O9 HX H HBL HR HL
      cases p with
      | true =>
        go_wp2
        go_roundw
        case rel => exact ⟨n + 1, by omega, by go_num, by rw [hsn.out]; rfl, trivial⟩
        case measure => simp [intOf]; omega
      | false =>
        go_wp2
        go_roundw
        case rel => exact ⟨n + 1, by omega, by go_num, by rw [hsn.out]; rfl, trivial⟩
        case measure => simp [intOf]; omega
    · obtain rfl : n = 8 := by omega
      have hall : BL.take 8 = BL := List.take_of_length_le (by omega)
      have hk := HR.out
      have hhead : headOk s = ((BZ && BL.all id) && (hq10 s).2.1 == 0) := by
        unfold headOk headB
        rw [EBZ.out, EB0.out, EB1.out, EB2.out, EB3.out, EB4.out, EB5.out, EB6.out, EB7.out, ← HBL.out]
      rw [hhead, EY.out, EMo.out, ED.out, EHh.out, EMi.out, ESe.out, EZ.out] at hk
      rw [hall]
      have HK := Lib.hid hk
      clear hk hhead hall hBLs HX
      obtain ⟨⟨c0, c1, c2, c3, c4, c5, c6⟩, _⟩ := cells7 H.out.mom
      obtain ⟨_, _, d2, _, _, _, _⟩ := cur4 H.out.cur
      have hlaid := Lib.hid (laid_below HL.out H.out.below)
      have HBE := Lib.hid H.out.below
      have HRES := Lib.hid H.out.res
      have hRlt := Lib.hid (blk_lt H.out.res)
      generalize (BZ && BL.all id) = right at *
      generalize (hq10 s).2.1 = kd at *
      clear O1 O2 O3 O4 O5 O6 O7 O8 O9 HR HL EY EMo ED EHh EMi ESe EZ EBZ EB0 EB1 EB2 EB3 EB4 EB5 EB6 EB7 HBL H
      cases right with
      | true =>
        have hq : (true && kd == 0) = (kd == 0) := Bool.true_and _
        rw [hq] at HK
        clear hq
        go_wp2_with fail
        go_region_with (go_at_call 60; refine (moment_read.calls Y Mo D Hh Mi Se Z (kd == 0) r1 r2 r3 r4 r5 r6 r7 r8 _ HK.out (laid_below hlaid.out (by repeat (first | (with_reducible exact Below.refl _ _) | apply below_drew | apply pw_below_drewN)))).mono ?_; rintro e w12 ⟨rfl, hb⟩; obtain ⟨⟨x0, x1, x2, x3, x4, x5, x6⟩, fz⟩ := cells7 (show w12.heap[w.heap.size]? = some (.cells #[.int .i64 0, .int .i64 0, .int .i64 0, .int .i64 0, .int .i64 0, .int .i64 0, .int .i64 0] 23 (0, 0)) from (hb.block w.heap.size (by exact hRlt.out)).trans HRES.out); have y0 := fz 0; have y1 := fz 1; have y2 := fz 2; have y3 := fz 3; have y4 := fz 4; have y5 := fz 5; have y6 := fz 6; clear fz; have HB := Lib.hid hb; clear hb)
        all_goals go_wp2
        all_goals
          have hr12 := (show w12.heap[w.heap.size]? = some (.cells #[.int .i64 0, .int .i64 0, .int .i64 0, .int .i64 0, .int .i64 0, .int .i64 0, .int .i64 0] 23 (0, 0)) from (HB.out.block w.heap.size (by exact hRlt.out)).trans HRES.out)
          have hbe : Below w.heap.size w w12 := below_step (by repeat (first | (with_reducible exact HBE.out) | (with_reducible apply below_drew) | (with_reducible apply pw_below_drewN) | exact HBE.out)) HB.out
          exact bodyPost_ret (results_ct rfl _ _ w.heap.size 23 #[.int .i64 r1, .int .i64 r2, .int .i64 r3, .int .i64 r4, .int .i64 r5, .int .i64 r6, .int .i64 r7] (0, 0) _ rfl (set7 hr12 _ _ _ _ _ _ _).1 Tryd.underlying23 rfl (by kernel_rfl)) rfl ⟨rfl, (set7 hr12 _ _ _ _ _ _ _).2 _ _ hbe (Nat.le_refl _)⟩
      | false =>
        have hq : (false && kd == 0) = false := rfl
        rw [hq] at HK
        clear hq
        go_wp2_with fail
        first | (go_region_with (go_at_call 60; refine (moment_read.calls Y Mo D Hh Mi Se Z false r1 r2 r3 r4 r5 r6 r7 r8 _ HK.out (laid_below hlaid.out (by repeat (first | (with_reducible exact Below.refl _ _) | apply below_drew | apply pw_below_drewN)))).mono ?_; rintro e w12 ⟨rfl, hb⟩; obtain ⟨⟨x0, x1, x2, x3, x4, x5, x6⟩, fz⟩ := cells7 (show w12.heap[w.heap.size]? = some (.cells #[.int .i64 0, .int .i64 0, .int .i64 0, .int .i64 0, .int .i64 0, .int .i64 0, .int .i64 0] 23 (0, 0)) from (hb.block w.heap.size (by exact hRlt.out)).trans HRES.out); have y0 := fz 0; have y1 := fz 1; have y2 := fz 2; have y3 := fz 3; have y4 := fz 4; have y5 := fz 5; have y6 := fz 6; clear fz; have HB := Lib.hid hb; clear hb)) | fail
        all_goals go_wp2
        all_goals
          have hr12 := (show w12.heap[w.heap.size]? = some (.cells #[.int .i64 0, .int .i64 0, .int .i64 0, .int .i64 0, .int .i64 0, .int .i64 0, .int .i64 0] 23 (0, 0)) from (HB.out.block w.heap.size (by exact hRlt.out)).trans HRES.out)
          have hbe : Below w.heap.size w w12 := below_step (by repeat (first | (with_reducible exact HBE.out) | (with_reducible apply below_drew) | (with_reducible apply pw_below_drewN) | exact HBE.out)) HB.out
          exact bodyPost_ret (results_ct rfl _ _ w.heap.size 23 #[.int .i64 r1, .int .i64 r2, .int .i64 r3, .int .i64 r4, .int .i64 r5, .int .i64 r6, .int .i64 r7] (0, 0) _ rfl (set7 hr12 _ _ _ _ _ _ _).1 Tryd.underlying23 rfl (by kernel_rfl)) rfl ⟨rfl, (set7 hr12 _ _ _ _ _ _ _).2 _ _ hbe (Nat.le_refl _)⟩
theorem moment_ReadHeader.calls (a0 : ByteArray) (r1 r2 r3 r4 r5 r6 r7 r8 : Int) (w : World) (h : moment_ReadHeader.f a0 = some (r1, r2, r3, r4, r5, r6, r7, r8)) (hL : Laid w) :
    Calls Tryd.prog 27 #[.string a0] w fun e w' => e = .returned (.tuple #[.agg #[.int .i64 r1, .int .i64 r2, .int .i64 r3, .int .i64 r4, .int .i64 r5, .int .i64 r6, .int .i64 r7], .int .i64 r8]) ∧ Below w.heap.size w w' := by
  unfold moment_ReadHeader.f at h
  by_cases hs : a0.size ≤ 140737488351232
  · rw [if_pos hs] at h
    exact readHeader_calls a0 r1 r2 r3 r4 r5 r6 r7 r8 w hs h hL
  · rw [if_neg hs] at h
    exact absurd h (by simp)
end Go.Proofs.YtjlchnmpebdggaaDoor.Mo
end
section
namespace Go.Proofs.YtjlchnmpebdggaaDoor.Mo
open Go.RowKit Go.Proofs.YtjlchnmpebdggaaDoorW.PrintWords
def text1 : ByteArray := ⟨#[32, 49, 45, 70, 101, 98, 45, 50, 48, 50, 54, 32, 49, 48, 58, 48, 48, 58, 48, 48, 32, 43, 48, 49, 48, 48]⟩
def text2 : ByteArray := ⟨#[49, 32, 70, 101, 98, 32, 50, 48, 50, 54, 32, 49, 48, 58, 48, 48, 32, 43, 48, 49, 48, 48]⟩
theorem kn_print : moment_PrintInternal.f 2026 2 1 10 0 0 60 = some (text1, 0) := by kernel_rfl
theorem kn_read : moment_ReadInternal.f text1 = some (2026, 2, 1, 10, 0, 0, 60, 0) := by kernel_rfl
theorem kn_head : moment_ReadHeader.f text2 = some (2026, 2, 1, 10, 0, 0, 60, 0) := by kernel_rfl
theorem kn_valid : moment_Valid.f 2026 2 1 10 0 0 60 = some true := by kernel_rfl
theorem kn_week : moment_Weekday.f 20 2026 2 1 10 0 0 60 = some 0 := by kernel_rfl
theorem kn_days : moment_Days.f 20 2026 2 1 10 0 0 60 = some 20485 := by kernel_rfl
set_option maxHeartbeats 4000000 in
set_option maxRecDepth 100000 in
theorem known_calls (w : World) (hL : Laid w) : Calls Tryd.prog 15 #[] w fun e w' => e = .returned (.bool true) ∧ Below w.heap.size w w' := by
  have HL := Lib.hid hL
  clear hL
  have K1 := Lib.hid kn_print
  have K2 := Lib.hid kn_read
  have K3 := Lib.hid kn_head
  have K4 := Lib.hid kn_valid
  have K5 := Lib.hid kn_week
  have K6 := Lib.hid kn_days
  go_enter Tryd.func15, Tryd.ntmps15
  go_wp2_with fail
  have HA := Lib.hid (heap_alloc_new w (.cells #[.int .i64 2026, .int .i64 2, .int .i64 1, .int .i64 10, .int .i64 0, .int .i64 0, .int .i64 60] 23))
  have HB := Lib.hid (below_alloc (Below.refl _ w) (.cells #[.int .i64 2026, .int .i64 2, .int .i64 1, .int .i64 10, .int .i64 0, .int .i64 0, .int .i64 60] 23))
  generalize w.alloc (.cells #[.int .i64 2026, .int .i64 2, .int .i64 1, .int .i64 10, .int .i64 0, .int .i64 0, .int .i64 60] 23) = w0 at *
  refine (moment_PrintInternal.calls 2026 2 1 10 0 0 60 text1 0 _ K1.out (laid_below HL.out (by repeat (first | (with_reducible exact HB.out) | (with_reducible apply below_drew) | (with_reducible apply pw_below_drewN) | exact HB.out)))).mono ?_
  rintro e w1 ⟨rfl, hb⟩
  have n0_ := Lib.hid (below_step (by repeat (first | (with_reducible exact HB.out) | (with_reducible apply below_drew) | (with_reducible apply pw_below_drewN) | exact HB.out)) hb)
  clear HB
  have HB := n0_
  clear n0_
  have n0_ := Lib.hid ((hb.block _ (blk_lt HA.out)).trans HA.out)
  clear HA
  have HA := n0_
  clear n0_
  clear hb
  go_wp2_with fail
  refine (moment_ReadInternal.calls text1 2026 2 1 10 0 0 60 0 _ K2.out (laid_below HL.out (by repeat (first | (with_reducible exact HB.out) | (with_reducible apply below_drew) | (with_reducible apply pw_below_drewN) | exact HB.out)))).mono ?_
  rintro e w2 ⟨rfl, hb⟩
  have n0_ := Lib.hid (below_step (by repeat (first | (with_reducible exact HB.out) | (with_reducible apply below_drew) | (with_reducible apply pw_below_drewN) | exact HB.out)) hb)
  clear HB
  have HB := n0_
  clear n0_
  have n0_ := Lib.hid ((hb.block _ (blk_lt HA.out)).trans HA.out)
  clear HA
  have HA := n0_
  clear n0_
  clear hb
  go_wp2_with fail
  have n1_ := Lib.hid (heap_alloc_new w2 (.cells #[.int .i64 2026, .int .i64 2, .int .i64 1, .int .i64 10, .int .i64 0, .int .i64 0, .int .i64 60] 23))
  have n0_ := Lib.hid ((Below.heap_alloc w2 (.cells #[.int .i64 2026, .int .i64 2, .int .i64 1, .int .i64 10, .int .i64 0, .int .i64 0, .int .i64 60] 23) _ (blk_lt HA.out)).trans HA.out)
  clear HA
  have HA := n0_
  clear n0_
  have HX := n1_
  clear n1_
  have n0_ := Lib.hid (below_alloc HB.out (.cells #[.int .i64 2026, .int .i64 2, .int .i64 1, .int .i64 10, .int .i64 0, .int .i64 0, .int .i64 60] 23))
  clear HB
  have HB := n0_
  clear n0_
  generalize w2.alloc (.cells #[.int .i64 2026, .int .i64 2, .int .i64 1, .int .i64 10, .int .i64 0, .int .i64 0, .int .i64 60] 23) = w3 at *
  refine (moment_ReadHeader.calls text2 2026 2 1 10 0 0 60 0 _ K3.out (laid_below HL.out (by repeat (first | (with_reducible exact HB.out) | (with_reducible apply below_drew) | (with_reducible apply pw_below_drewN) | exact HB.out)))).mono ?_
  rintro e w4 ⟨rfl, hb⟩
  have n0_ := Lib.hid (below_step (by repeat (first | (with_reducible exact HB.out) | (with_reducible apply below_drew) | (with_reducible apply pw_below_drewN) | exact HB.out)) hb)
  clear HB
  have HB := n0_
  clear n0_
  have n0_ := Lib.hid ((hb.block _ (blk_lt HA.out)).trans HA.out)
  clear HA
  have HA := n0_
  clear n0_
  have n0_ := Lib.hid ((hb.block _ (blk_lt HX.out)).trans HX.out)
  clear HX
  have HX := n0_
  clear n0_
  clear hb
  go_upto_region 5 with fail
  have n1_ := Lib.hid (heap_alloc_new w4 (.cells #[.int .i64 2026, .int .i64 2, .int .i64 1, .int .i64 10, .int .i64 0, .int .i64 0, .int .i64 60] 23))
  have n0_ := Lib.hid ((Below.heap_alloc w4 (.cells #[.int .i64 2026, .int .i64 2, .int .i64 1, .int .i64 10, .int .i64 0, .int .i64 0, .int .i64 60] 23) _ (blk_lt HA.out)).trans HA.out)
  clear HA
  have HA := n0_
  clear n0_
  have n0_ := Lib.hid ((Below.heap_alloc w4 (.cells #[.int .i64 2026, .int .i64 2, .int .i64 1, .int .i64 10, .int .i64 0, .int .i64 0, .int .i64 60] 23) _ (blk_lt HX.out)).trans HX.out)
  clear HX
  have HX := n0_
  clear n0_
  have HH := n1_
  clear n1_
  have n0_ := Lib.hid (below_alloc HB.out (.cells #[.int .i64 2026, .int .i64 2, .int .i64 1, .int .i64 10, .int .i64 0, .int .i64 0, .int .i64 60] 23))
  clear HB
  have HB := n0_
  clear n0_
  generalize w4.alloc (.cells #[.int .i64 2026, .int .i64 2, .int .i64 1, .int .i64 10, .int .i64 0, .int .i64 0, .int .i64 60] 23) = w5 at *
  obtain ⟨⟨a0, a1, a2, a3, a4, a5, a6⟩, _⟩ := cells7 HA.out
  obtain ⟨⟨x0, x1, x2, x3, x4, x5, x6⟩, _⟩ := cells7 HX.out
  obtain ⟨⟨y0, y1, y2, y3, y4, y5, y6⟩, _⟩ := cells7 HH.out
  go_wp2_with fail
  clear a0 a1 a2 a3 a4 a5 a6
  clear x0 x1 x2 x3 x4 x5 x6
  clear y0 y1 y2 y3 y4 y5 y6
  refine (moment_Valid.calls 2026 2 1 10 0 0 60 true _ K4.out (laid_below HL.out (by repeat (first | (with_reducible exact HB.out) | (with_reducible apply below_drew) | (with_reducible apply pw_below_drewN) | exact HB.out)))).mono ?_
  rintro e w6 ⟨rfl, hb⟩
  have n0_ := Lib.hid (below_step (by repeat (first | (with_reducible exact HB.out) | (with_reducible apply below_drew) | (with_reducible apply pw_below_drewN) | exact HB.out)) hb)
  clear HB
  have HB := n0_
  clear n0_
  have n0_ := Lib.hid ((hb.block _ (blk_lt HA.out)).trans HA.out)
  clear HA
  have HA := n0_
  clear n0_
  clear hb
  obtain ⟨⟨a0, a1, a2, a3, a4, a5, a6⟩, _⟩ := cells7 HA.out
  go_wp2_with fail
  clear a0 a1 a2 a3 a4 a5 a6
  refine (moment_Weekday.calls 20 2026 2 1 10 0 0 60 0 _ K5.out (laid_below HL.out (by repeat (first | (with_reducible exact HB.out) | (with_reducible apply below_drew) | (with_reducible apply pw_below_drewN) | exact HB.out)))).mono ?_
  rintro e w7 ⟨rfl, hb⟩
  have n0_ := Lib.hid (below_step (by repeat (first | (with_reducible exact HB.out) | (with_reducible apply below_drew) | (with_reducible apply pw_below_drewN) | exact HB.out)) hb)
  clear HB
  have HB := n0_
  clear n0_
  have n0_ := Lib.hid ((hb.block _ (blk_lt HA.out)).trans HA.out)
  clear HA
  have HA := n0_
  clear n0_
  clear hb
  obtain ⟨⟨a0, a1, a2, a3, a4, a5, a6⟩, _⟩ := cells7 HA.out
  go_wp2_with fail
  clear a0 a1 a2 a3 a4 a5 a6
  refine (moment_Days.calls 20 2026 2 1 10 0 0 60 20485 _ K6.out (laid_below HL.out (by repeat (first | (with_reducible exact HB.out) | (with_reducible apply below_drew) | (with_reducible apply pw_below_drewN) | exact HB.out)))).mono ?_
  rintro e w8 ⟨rfl, hb⟩
  have n0_ := Lib.hid (below_step (by repeat (first | (with_reducible exact HB.out) | (with_reducible apply below_drew) | (with_reducible apply pw_below_drewN) | exact HB.out)) hb)
  clear HB
  have HB := n0_
  clear n0_
  have n0_ := Lib.hid ((hb.block _ (blk_lt HA.out)).trans HA.out)
  clear HA
  have HA := n0_
  clear n0_
  clear hb
  go_wp2
  go_ret
  exact ⟨rfl, HB.out⟩
end Go.Proofs.YtjlchnmpebdggaaDoor.Mo
end
section
namespace Go.Proofs.YtjlchnmpebdggaaDoor.Mo
open Go.RowKit Go.Proofs.YtjlchnmpebdggaaDoorW.PrintWords Go.Proofs.YtjlchnmpebdggaaDoorW.PrintLast Go.Proofs.YtjlchnmpebdggaaDoorW.PrintMore
attribute [local go_sem] max2_int min2_int max_two min_two max_three min_three max_four min_four   -- for this text's walks alone
set_option linter.unusedVariables false
set_option linter.unusedSimpArgs false
end Go.Proofs.YtjlchnmpebdggaaDoor.Mo
end
section
namespace Go.Proofs.YtjlchnmpebdggaaDoor.Mo
open Go.RowKit Go.Proofs.YtjlchnmpebdggaaDoorW.PrintWords
theorem eqA23 (d : Nat) (w : World) (x0 y0 : Int) (x1 y1 : Int) (x2 y2 : Int) (x3 y3 : Int) (x4 y4 : Int) (x5 y5 : Int) (x6 y6 : Int) :
    (Op.equalIn (d + 2) 23 (.agg #[.int .i64 x0, .int .i64 x1, .int .i64 x2, .int .i64 x3, .int .i64 x4, .int .i64 x5, .int .i64 x6]) (.agg #[.int .i64 y0, .int .i64 y1, .int .i64 y2, .int .i64 y3, .int .i64 y4, .int .i64 y5, .int .i64 y6])).run Tryd.prog w = .ok (x0 == y0 && (x1 == y1 && (x2 == y2 && (x3 == y3 && (x4 == y4 && (x5 == y5 && (x6 == y6))))))) w := by
  refine eqA_of Tryd.underlying23 (by kernel_rfl) ?_
  refine eqf_cons (by rfl) (by go_simp; rfl) (by go_simp; rfl) (by go_simp) ?_
  refine eqf_cons (by rfl) (by go_simp; rfl) (by go_simp; rfl) (by go_simp) ?_
  refine eqf_cons (by rfl) (by go_simp; rfl) (by go_simp; rfl) (by go_simp) ?_
  refine eqf_cons (by rfl) (by go_simp; rfl) (by go_simp; rfl) (by go_simp) ?_
  refine eqf_cons (by rfl) (by go_simp; rfl) (by go_simp; rfl) (by go_simp) ?_
  refine eqf_cons (by rfl) (by go_simp; rfl) (by go_simp; rfl) (by go_simp) ?_
  exact eqf_last (by rfl) (by go_simp; rfl) (by go_simp; rfl) (by go_simp)
end Go.Proofs.YtjlchnmpebdggaaDoor.Mo
end
section
-- PRINTED by a driver of print.py
namespace Go.Proofs.YtjlchnmpebdggaaDoor.Mo
open Go.RowKit Go.Proofs.YtjlchnmpebdggaaDoorW.PrintWords Go.Proofs.YtjlchnmpebdggaaDoorW.PrintLast Go.Proofs.YtjlchnmpebdggaaDoorW.PrintMore
attribute [local go_sem] max2_int min2_int max_two min_two max_three min_three max_four min_four   -- for this text's walks alone
set_option linter.unusedVariables false
set_option linter.unusedSimpArgs false
end Go.Proofs.YtjlchnmpebdggaaDoor.Mo
end
section
-- PRINTED by a driver of print.py
namespace Go.Proofs.YtjlchnmpebdggaaDoor.Mo
open Go.RowKit Go.Proofs.YtjlchnmpebdggaaDoorW.PrintWords Go.Proofs.YtjlchnmpebdggaaDoorW.PrintLast Go.Proofs.YtjlchnmpebdggaaDoorW.PrintMore
attribute [local go_sem] max2_int min2_int max_two min_two max_three min_three max_four min_four   -- for this text's walks alone
set_option linter.unusedVariables false
set_option linter.unusedSimpArgs false
end Go.Proofs.YtjlchnmpebdggaaDoor.Mo
end
section
-- PRINTED by a driver of print.py
namespace Go.Proofs.YtjlchnmpebdggaaDoor.Mo
open Go.RowKit Go.Proofs.YtjlchnmpebdggaaDoorW.PrintWords Go.Proofs.YtjlchnmpebdggaaDoorW.PrintLast Go.Proofs.YtjlchnmpebdggaaDoorW.PrintMore
attribute [local go_sem] max2_int min2_int max_two min_two max_three min_three max_four min_four   -- for this text's walks alone
set_option linter.unusedVariables false
set_option linter.unusedSimpArgs false
attribute [local go_sem high] eqA23
end Go.Proofs.YtjlchnmpebdggaaDoor.Mo
end
section
-- PRINTED by a driver of print.py
namespace Go.Proofs.YtjlchnmpebdggaaDoor.Mo
open Go.RowKit Go.Proofs.YtjlchnmpebdggaaDoorW.PrintWords Go.Proofs.YtjlchnmpebdggaaDoorW.PrintLast Go.Proofs.YtjlchnmpebdggaaDoorW.PrintMore
attribute [local go_sem] max2_int min2_int max_two min_two max_three min_three max_four min_four   -- for this text's walks alone
set_option linter.unusedVariables false
set_option linter.unusedSimpArgs false
attribute [local go_sem high] eqA23
end Go.Proofs.YtjlchnmpebdggaaDoor.Mo
end
section
namespace Go.Proofs.YtjlchnmpebdggaaDoor.Mo
open Go.RowKit Go.Proofs.YtjlchnmpebdggaaDoorW.PrintWords
theorem plain_ten (d : Int) (h1 : 1 ≤ d) (h2 : d ≤ 99) : (plainP d).size = if d < 10 then 1 else 2 := by
  have hb : bt (twoP d) 0 = 48 + d / 10 := by
    rw [twoP_dig d (by omega) h2]
    unfold digP
    rw [str_app]
    have h9 : d / 10 = 0 ∨ d / 10 = 1 ∨ d / 10 = 2 ∨ d / 10 = 3 ∨ d / 10 = 4 ∨ d / 10 = 5 ∨ d / 10 = 6 ∨ d / 10 = 7 ∨ d / 10 = 8 ∨ d / 10 = 9 := by omega
    rcases h9 with h | h | h | h | h | h | h | h | h | h <;> rw [h] <;> rfl
  have h2s := twoP_size d
  unfold plainP
  rw [hb]
  by_cases hd : d < 10
  · rw [if_pos (by omega), if_pos hd, ByteArray.size_extract, h2s]; rfl
  · rw [if_neg (by omega), if_neg hd, h2s]
end Go.Proofs.YtjlchnmpebdggaaDoor.Mo
end
section
namespace Go.Proofs.YtjlchnmpebdggaaDoor.Mo
open Go.RowKit Go.Proofs.YtjlchnmpebdggaaDoorW.PrintWords
def dgB (x : Int) : UInt8 := UInt8.ofNat (48 + x).toNat
theorem dgB_nat (x : Int) (h0 : 0 ≤ x) (h1 : x ≤ 9) : ((dgB x).toNat : Int) = 48 + x := by
  unfold dgB
  rw [UInt8.toNat_ofNat']
  omega
theorem dgB_dig (x : Int) (h0 : 0 ≤ x) (h1 : x ≤ 9) : isDig (dgB x) = true := (isDig_iff _).2 (by have := dgB_nat x h0 h1; omega)
theorem dstep_dgB (n x : Int) (h0 : 0 ≤ x) (h1 : x ≤ 9) : dstep n (dgB x) = 10 * n + x := by unfold dstep; rw [dgB_nat x h0 h1]; omega
theorem app_list (a b : ByteArray) : (a ++ b).data.toList = a.data.toList ++ b.data.toList := by rw [ByteArray.data_append, Array.toList_append]
theorem two_list (n : Int) (h0 : 0 ≤ n) (h1 : n ≤ 99) : (twoP n).data.toList = [dgB (n / 10), dgB (n % 10)] := by rw [twoP_dig n h0 h1, app_list]; rfl
theorem four_list (n : Int) (h0 : 0 ≤ n) (h1 : n ≤ 9999) : (fourP n).data.toList = [dgB (n / 100 / 10), dgB (n / 100 % 10), dgB (n % 100 / 10), dgB (n % 100 % 10)] := by
  unfold fourP
  rw [Int.tdiv_eq_ediv_of_nonneg h0, Int.tmod_eq_emod_of_nonneg h0, w64 (n / 100) (by omega) (by omega), app_list, two_list _ (by omega) (by omega), two_list _ (by omega) (by omega)]
  rfl
theorem digits_of (t : ByteArray) (l : List Int) (hl : t.data.toList = l.map dgB) (hr : ∀ x ∈ l, 0 ≤ x ∧ x ≤ 9) (h1 : 1 ≤ l.length) (h4 : l.length ≤ 4) : digitsP t = (l.foldl (fun n x => 10 * n + x) 0, true) := by
  have hs := toList_len t
  rw [hl, List.length_map] at hs
  have ha : t.data.toList.all isDig = true := by
    rw [hl, List.all_map, List.all_eq_true]
    intro x hx
    exact dgB_dig x (hr x hx).1 (hr x hx).2
  have hv : ∀ (l : List Int) (n : Int), (∀ x ∈ l, 0 ≤ x ∧ x ≤ 9) → (l.map dgB).foldl dstep n = l.foldl (fun n x => 10 * n + x) n := by
    intro l
    induction l with
    | nil => intro n _; rfl
    | cons x r ih =>
      intro n hx
      have hx0 := hx x (List.mem_cons_self ..)
      rw [List.map_cons, List.foldl_cons, List.foldl_cons, dstep_dgB n x hx0.1 hx0.2]
      exact ih _ (fun y hy => hx y (List.mem_cons_of_mem _ hy))
  unfold digitsP dval
  rw [if_pos ⟨by omega, by omega, ha⟩, hl, hv l 0 hr]
theorem digits_two (n : Int) (h0 : 0 ≤ n) (h1 : n ≤ 99) : digitsP (twoP n) = (n, true) := by
  rw [digits_of (twoP n) [n / 10, n % 10] (two_list n h0 h1) (by intro x hx; simp at hx; omega) (by simp) (by simp)]
  simp only [List.foldl_cons, List.foldl_nil, Prod.mk.injEq, and_true]
  omega
theorem digits_four (n : Int) (h0 : 0 ≤ n) (h1 : n ≤ 9999) : digitsP (fourP n) = (n, true) := by
  rw [digits_of (fourP n) [n / 100 / 10, n / 100 % 10, n % 100 / 10, n % 100 % 10] (four_list n h0 h1) (by intro x hx; simp at hx; omega) (by simp) (by simp)]
  simp only [List.foldl_cons, List.foldl_nil, Prod.mk.injEq, and_true]
  omega
theorem ext_of {s t : ByteArray} {l : List UInt8} (h : s.data.toList = l) (a b : Nat) (ht : t.data.toList = (l.drop a).take (b - a)) : s.extract a b = t := by
  apply ByteArray.ext
  apply Array.toList_inj.1
  rw [ByteArray.data_extract, Array.toList_extract, List.extract_eq_take_drop, h, ht]
theorem bt_of {s : ByteArray} {l : List UInt8} (h : s.data.toList = l) (i : Nat) (c : UInt8) (hc : l[i]? = some c) : bt s (i : Int) = (c.toNat : Int) := by
  have hlt : i < s.data.toList.length := by rw [h]; exact (List.getElem?_eq_some_iff.1 hc).1
  rw [bt_get s i hlt]
  obtain ⟨hh, he⟩ := List.getElem?_eq_some_iff.1 hc
  simp only [h, he]
theorem size_of {s : ByteArray} {l : List UInt8} (h : s.data.toList = l) : s.size = l.length := by rw [← toList_len, h]
theorem month_facts (n : Nat) (h : n < 12) : ∃ a b c : UInt8, (monthL.getD n ⟨#[]⟩).data.toList = [a, b, c] ∧ ([a, b, c].all isLet = true) ∧ placeP (monthL.getD n ⟨#[]⟩) monthL 0 = n := by
  have : n = 0 ∨ n = 1 ∨ n = 2 ∨ n = 3 ∨ n = 4 ∨ n = 5 ∨ n = 6 ∨ n = 7 ∨ n = 8 ∨ n = 9 ∨ n = 10 ∨ n = 11 := by omega
  rcases this with rfl | rfl | rfl | rfl | rfl | rfl | rfl | rfl | rfl | rfl | rfl | rfl <;> exact ⟨_, _, _, rfl, by decide, by simp only [placeP, monthL, ByteArray.toList_eq]; decide⟩
theorem below_two (n most : Int) (h0 : 0 ≤ n) (h1 : n ≤ most) (h2 : most ≤ 99) : belowP (twoP n) most = (n, true) := by
  unfold belowP
  rw [digits_two n h0 (by omega), twoP_size]
  simp only
  rw [decide_eq_true h1]
  rfl
def signB (z : Int) : ByteArray := if z < 0 then ⟨#[45]⟩ else ⟨#[43]⟩
def absZ (z : Int) : Int := if z < 0 then -z else z
theorem zone_back (z : Int) (h0 : -1439 ≤ z) (h1 : z ≤ 1439) : zoneT (signB z ++ twoP (absZ z / 60) ++ twoP (absZ z % 60)) = (z, true) := by
  have r0 : 0 ≤ absZ z ∧ absZ z ≤ 1439 := by unfold absZ; split <;> omega
  have l1 := two_list (absZ z / 60) (by omega) (by omega)
  have l2 := two_list (absZ z % 60) (by omega) (by omega)
  have hs : (signB z).data.toList = [if z < 0 then 45 else 43] := by unfold signB; split <;> rfl
  have hL : (signB z ++ twoP (absZ z / 60) ++ twoP (absZ z % 60)).data.toList = [if z < 0 then 45 else 43, dgB (absZ z / 60 / 10), dgB (absZ z / 60 % 10), dgB (absZ z % 60 / 10), dgB (absZ z % 60 % 10)] := by
    rw [app_list, app_list, l1, l2, hs]; rfl
  have e1 := ext_of (t := twoP (absZ z / 60)) hL 1 3 (by rw [l1]; rfl)
  have e2 := ext_of (t := twoP (absZ z % 60)) hL 3 5 (by rw [l2]; rfl)
  have hb := bt_of hL 0 _ rfl
  rw [show ((0 : Nat) : Int) = 0 from rfl] at hb
  unfold zoneT
  rw [e1, e2, below_two _ 23 (by omega) (by omega) (by omega), below_two _ 59 (by omega) (by omega) (by omega), hb]
  have hsz := size_of hL
  by_cases hz : z < 0
  · rw [if_pos hz, if_pos ⟨hsz, .inr rfl⟩, if_pos (show (((45 : UInt8).toNat : Nat) : Int) = 45 from rfl)]
    unfold absZ
    rw [if_pos hz]
    simp only [Prod.mk.injEq]
    exact ⟨by omega, rfl⟩
  · rw [if_neg hz, if_pos ⟨hsz, .inl rfl⟩, if_neg (by decide)]
    unfold absZ
    rw [if_neg hz]
    simp only [Prod.mk.injEq]
    exact ⟨by omega, rfl⟩
end Go.Proofs.YtjlchnmpebdggaaDoor.Mo
end
section
namespace Go.Proofs.YtjlchnmpebdggaaDoor.Mo
open Go.RowKit Go.Proofs.YtjlchnmpebdggaaDoorW.PrintWords
end Go.Proofs.YtjlchnmpebdggaaDoor.Mo
end
section
namespace Go.Proofs.YtjlchnmpebdggaaDoor.Mo
open Go.RowKit Go.Proofs.YtjlchnmpebdggaaDoorW.PrintWords
end Go.Proofs.YtjlchnmpebdggaaDoor.Mo
end
section
namespace Go.Proofs.YtjlchnmpebdggaaDoor.Mo
open Go.RowKit Go.Proofs.YtjlchnmpebdggaaDoorW.PrintWords
theorem take_while_app {p : UInt8 → Bool} : ∀ (q r : List UInt8), q.all p = true → (∀ c r', r = c :: r' → p c = false) → (q ++ r).takeWhile p = q
  | [], [], _, _ => rfl
  | [], c :: r', _, h => by
    have := h c r' rfl
    simp [this]
  | c :: q, r, h, h2 => by
    rw [List.all_cons, Bool.and_eq_true] at h
    rw [List.cons_append, List.takeWhile_cons, if_pos h.1, take_while_app q r h.2 h2]
theorem drop_more {l : List UInt8} {i : Nat} {a b : List UInt8} (h : l.drop i = a ++ b) : l.drop (i + a.length) = b := by
  rw [← List.drop_drop, h, List.drop_left]
theorem blanks_none {c : UInt8} {q : List UInt8} (hb : isBlank c = false) (h40 : c.toNat ≠ 40) : blanksL (c :: q) 0 = 0 := by
  unfold blanksL
  rw [if_neg h40, if_neg (by omega), if_neg (by omega), if_neg (by rw [hb]; simp)]
theorem blanks_one {c : UInt8} {q : List UInt8} (hb : isBlank c = false) (h40 : c.toNat ≠ 40) : blanksL (32 :: c :: q) 0 = 1 := by
  have hb32 : isBlank 32 = true := by decide
  unfold blanksL
  rw [if_neg (by decide), if_neg (by omega), if_neg (by omega), if_pos (.inr hb32), blanks_none hb h40]
theorem next_gen (s : ByteArray) (i : Nat) (sp : List UInt8) (c : UInt8) (p r : List UInt8) (K : Int) (hi : i ≤ s.size) (hsp : sp = [] ∨ sp = [32]) (hd : s.data.toList.drop i = sp ++ (c :: p ++ r))
    (hb : isBlank c = false) (h40 : c.toNat ≠ 40) (hk : ∀ f, s.data.toList.drop f = c :: p ++ r → pieceAt s.data.toList f = (f + (c :: p).length, K)) :
    ∃ j, nextP s i = (j, K, ⟨(c :: p).toArray⟩) ∧ s.data.toList.drop j = r ∧ j ≤ s.size := by
  have hl := toList_len s
  have hlen : sp.length + ((c :: p).length + r.length) = s.data.toList.length - i := by
    have := congrArg List.length hd
    rw [List.length_drop, List.length_append, List.length_append] at this
    omega
  have hc : (c :: p).length = p.length + 1 := List.length_cons
  have hbl : blankP s.data.toList i = i + sp.length := by
    unfold blankP
    rw [hd]
    rcases hsp with rfl | rfl
    · exact congrArg (fun x => i + x) (blanks_none hb h40)
    · exact congrArg (fun x => i + x) (blanks_one hb h40)
  have hdf : s.data.toList.drop (i + sp.length) = c :: p ++ r := drop_more hd
  have hdj : s.data.toList.drop (i + sp.length + (c :: p).length) = r := drop_more hdf
  refine ⟨i + sp.length + (c :: p).length, ?_, hdj, by omega⟩
  unfold nextP
  simp only
  rw [hbl, if_neg (by omega), hk _ hdf]
  simp only [Prod.mk.injEq, true_and]
  apply ByteArray.ext
  apply Array.toList_inj.1
  rw [ByteArray.data_extract, Array.toList_extract, List.extract_eq_take_drop, hdf, show i + sp.length + (c :: p).length - (i + sp.length) = (c :: p).length from by omega, List.take_left]
theorem getD_drop {l : List UInt8} {f : Nat} {c : UInt8} {q : List UInt8} (h : l.drop f = c :: q) : l.getD f 0 = c ∧ l.drop (f + 1) = q := by
  constructor
  · have : (l.drop f)[0]? = some c := by rw [h]; rfl
    rw [List.getElem?_drop, Nat.add_zero] at this
    rw [List.getD_eq_getElem?_getD, this]
    rfl
  · rw [← List.drop_drop, h]; rfl
theorem run_at {P : UInt8 → Bool} {l : List UInt8} {f : Nat} {p r : List UInt8} (h : l.drop f = p ++ r) (hp : p.all P = true) (hr : ∀ c r', r = c :: r' → P c = false) : runP P l f = f + p.length := by
  unfold runP
  rw [h, take_while_app p r hp hr]
theorem piece_let {l : List UInt8} {f : Nat} {c : UInt8} {p r : List UInt8} (h : l.drop f = c :: p ++ r) (hc : isLet c = true) (hp : p.all isLet = true) (hr : ∀ c r', r = c :: r' → isLet c = false) : pieceAt l f = (f + (c :: p).length, 1) := by
  obtain ⟨h1, h2⟩ := getD_drop h
  unfold pieceAt
  simp only
  rw [h1, if_pos hc, run_at h2 hp hr, List.length_cons]
  congr 1
  omega
theorem piece_dig {l : List UInt8} {f : Nat} {c : UInt8} {p r : List UInt8} (h : l.drop f = c :: p ++ r) (hc : isLet c = false) (hc2 : isDig c = true) (hp : p.all isDig = true) (hr : ∀ c r', r = c :: r' → isDig c = false) : pieceAt l f = (f + (c :: p).length, 2) := by
  obtain ⟨h1, h2⟩ := getD_drop h
  unfold pieceAt
  simp only
  rw [h1, if_neg (by rw [hc]; decide), if_pos hc2, run_at h2 hp hr, List.length_cons]
  congr 1
  omega
theorem piece_sign {l : List UInt8} {f : Nat} {c : UInt8} {p r : List UInt8} (h : l.drop f = c :: p ++ r) (hc : c = 43 ∨ c = 45) (hp : p.all isDig = true) (hp1 : 1 ≤ p.length) (hr : ∀ c r', r = c :: r' → isDig c = false) : pieceAt l f = (f + (c :: p).length, 3) := by
  obtain ⟨h1, h2⟩ := getD_drop h
  have n1 : isLet c = false ∧ isDig c = false ∧ (c.toNat = 43 ∨ c.toNat = 45) := by rcases hc with rfl | rfl <;> decide
  unfold pieceAt
  simp only
  rw [h1, if_neg (by rw [n1.1]; decide), if_neg (by rw [n1.2.1]; decide), if_pos n1.2.2, run_at h2 hp hr, if_pos (by omega), List.length_cons]
  congr 1
  omega
theorem piece_comma {l : List UInt8} {f : Nat} {r : List UInt8} (h : l.drop f = 44 :: [] ++ r) : pieceAt l f = (f + [(44 : UInt8)].length, 4) := by
  obtain ⟨h1, _⟩ := getD_drop h
  unfold pieceAt
  simp only
  rw [h1, if_neg (by decide), if_neg (by decide), if_neg (by decide), if_pos (by decide)]
  rfl
theorem piece_colon {l : List UInt8} {f : Nat} {r : List UInt8} (h : l.drop f = 58 :: [] ++ r) : pieceAt l f = (f + [(58 : UInt8)].length, 5) := by
  obtain ⟨h1, _⟩ := getD_drop h
  unfold pieceAt
  simp only
  rw [h1, if_neg (by decide), if_neg (by decide), if_neg (by decide), if_neg (by decide), if_pos (by decide)]
  rfl
theorem let_facts {c : UInt8} (h : isLet c = true) : isBlank c = false ∧ c.toNat ≠ 40 ∧ isDig c = false := by
  unfold isLet at h
  simp only [Bool.or_eq_true, Bool.and_eq_true, decide_eq_true_eq] at h
  refine ⟨?_, by omega, ?_⟩
  · unfold isBlank
    simp only [Bool.or_eq_false_iff, beq_eq_false_iff_ne]
    omega
  · unfold isDig
    simp only [Bool.and_eq_false_iff, decide_eq_false_iff_not]
    omega
theorem dig_facts {c : UInt8} (h : isDig c = true) : isBlank c = false ∧ c.toNat ≠ 40 ∧ isLet c = false := by
  have := (isDig_iff c).1 h
  refine ⟨?_, by omega, ?_⟩
  · unfold isBlank
    simp only [Bool.or_eq_false_iff, beq_eq_false_iff_ne]
    omega
  · unfold isLet
    simp only [Bool.or_eq_false_iff, Bool.and_eq_false_iff, decide_eq_false_iff_not]
    omega
theorem text_eq {t : ByteArray} {l : List UInt8} (h : t.data.toList = l) : (⟨l.toArray⟩ : ByteArray) = t := by
  apply ByteArray.ext
  apply Array.toList_inj.1
  rw [h]
theorem head_not {P : UInt8 → Bool} {a : UInt8} {q : List UInt8} (h : P a = false) : ∀ c r', a :: q = c :: r' → P c = false := by
  intro c r' e
  injection e with e1 _
  rw [← e1]
  exact h
end Go.Proofs.YtjlchnmpebdggaaDoor.Mo
end
section
namespace Go.Proofs.YtjlchnmpebdggaaDoor.Mo
open Go.RowKit Go.Proofs.YtjlchnmpebdggaaDoorW.PrintWords
def Sk (d e : Nat) (g : List UInt8) : Prop := ∀ r, blanksL (g ++ r) d = g.length + blanksL r e
theorem sk_nil (d : Nat) : Sk d d [] := fun r => by simp
theorem sk_app {d e f : Nat} {g h : List UInt8} (a : Sk d e g) (b : Sk e f h) : Sk d f (g ++ h) := fun r => by
  rw [List.append_assoc, a, b, List.length_append]; omega
theorem sk_open (d : Nat) : Sk d (d + 1) [40] := fun r => by
  rw [List.singleton_append]
  conv => lhs; unfold blanksL
  rw [if_pos (by decide)]; rfl
theorem sk_close (d : Nat) : Sk (d + 1) d [41] := fun r => by
  rw [List.singleton_append]
  conv => lhs; unfold blanksL
  rw [if_neg (by decide), if_pos ⟨by omega, by decide⟩]; rfl
theorem sk_esc (d : Nat) (x : UInt8) : Sk (d + 1) (d + 1) [92, x] := fun r => by
  rw [show [92, x] ++ r = 92 :: x :: r from rfl]
  conv => lhs; unfold blanksL
  rw [if_neg (by decide), if_neg (by rintro ⟨_, h⟩; exact absurd h (by decide)), if_pos ⟨by omega, by decide⟩]
  simp only [List.length_cons, List.length_nil]
  omega
theorem sk_char (d : Nat) (x : UInt8) (h1 : x.toNat ≠ 40) (h2 : x.toNat ≠ 41) (h3 : x.toNat ≠ 92) : Sk (d + 1) (d + 1) [x] := fun r => by
  rw [List.singleton_append]
  conv => lhs; unfold blanksL
  rw [if_neg h1, if_neg (fun h => h2 h.2), if_neg (fun h => h3 h.2), if_pos (.inl (by omega))]; rfl
theorem sk_blank (x : UInt8) (h1 : x.toNat ≠ 40) (hb : isBlank x = true) : Sk 0 0 [x] := fun r => by
  rw [List.singleton_append]
  conv => lhs; unfold blanksL
  rw [if_neg h1, if_neg (by omega), if_neg (by omega), if_pos (.inr hb)]; rfl
def escL (x : UInt8) : List UInt8 := if x.toNat = 40 ∨ x.toNat = 41 ∨ x.toNat = 92 then [92, x] else [x]
def escsL : List UInt8 → List UInt8
  | [] => []
  | x :: l => escL x ++ escsL l
def insideL (l : List UInt8) : List UInt8 := [40] ++ (escsL (l.take 200) ++ [41])
theorem sk_escs (d : Nat) : ∀ l, Sk (d + 1) (d + 1) (escsL l)
  | [] => sk_nil _
  | x :: l => by
    refine sk_app ?_ (sk_escs d l)
    unfold escL
    split
    · exact sk_esc d x
    · next h => exact sk_char d x (fun e => h (.inl e)) (fun e => h (.inr (.inl e))) (fun e => h (.inr (.inr e)))
theorem sk_inside (d : Nat) (l : List UInt8) : Sk d d (insideL l) := sk_app (sk_open d) (sk_app (sk_escs d _) (sk_close d))
def GapOk (g : List UInt8) : Prop := Sk 0 0 g ∧ ∃ c r, g = c :: r ∧ isDig c = false ∧ isLet c = false
def gapL (l : List UInt8) : List UInt8 :=
  if l.length % 4 = 0 then [13, 10, 9] else if l.length % 4 = 1 then [32, 40, 97, 32] ++ (insideL l ++ [41])
  else if l.length % 4 = 2 then insideL l ++ insideL [] else [32, 32, 9] ++ (insideL l ++ [32])
theorem gap_one : GapOk [32] := ⟨sk_blank 32 (by decide) (by decide), 32, [], rfl, by decide, by decide⟩
theorem gap_ok (l : List UInt8) : GapOk (gapL l) := by
  have b32 := sk_blank 32 (by decide) (by decide)
  have b9 := sk_blank 9 (by decide) (by decide)
  have b10 := sk_blank 10 (by decide) (by decide)
  have b13 := sk_blank 13 (by decide) (by decide)
  unfold gapL
  split
  · exact ⟨sk_app b13 (sk_app b10 b9), 13, _, rfl, by decide, by decide⟩
  split
  · refine ⟨sk_app (sk_app b32 (sk_app (sk_open 0) (sk_app (sk_char 0 97 (by decide) (by decide) (by decide)) (sk_char 0 32 (by decide) (by decide) (by decide))))) (sk_app (sk_inside 1 l) (sk_close 0)), 32, _, rfl, by decide, by decide⟩
  split
  · exact ⟨sk_app (sk_inside 0 l) (sk_inside 0 []), 40, _, rfl, by decide, by decide⟩
  · exact ⟨sk_app (sk_app b32 (sk_app b32 b9)) (sk_app (sk_inside 0 l) b32), 32, _, rfl, by decide, by decide⟩
theorem next_gap (s : ByteArray) (i : Nat) (sp : List UInt8) (c : UInt8) (p r : List UInt8) (K : Int) (hi : i ≤ s.size) (hsp : Sk 0 0 sp) (hd : s.data.toList.drop i = sp ++ (c :: p ++ r))
    (hb : isBlank c = false) (h40 : c.toNat ≠ 40) (hk : ∀ f, s.data.toList.drop f = c :: p ++ r → pieceAt s.data.toList f = (f + (c :: p).length, K)) :
    ∃ j, nextP s i = (j, K, ⟨(c :: p).toArray⟩) ∧ s.data.toList.drop j = r ∧ j ≤ s.size := by
  have hl := toList_len s
  have hlen : sp.length + ((c :: p).length + r.length) = s.data.toList.length - i := by
    have := congrArg List.length hd
    rw [List.length_drop, List.length_append, List.length_append] at this
    omega
  have hc : (c :: p).length = p.length + 1 := List.length_cons
  have hdf : s.data.toList.drop (i + sp.length) = c :: p ++ r := drop_more hd
  have hE := next_gen s (i + sp.length) [] c p r K (by omega) (.inl rfl) hdf hb h40 hk
  have hbl : blankP s.data.toList i = blankP s.data.toList (i + sp.length) := by
    unfold blankP
    rw [hdf, hd, hsp, List.cons_append, blanks_none hb h40]
    omega
  have hn : nextP s i = nextP s (i + sp.length) := by unfold nextP; rw [hbl]
  rw [hn]
  exact hE
end Go.Proofs.YtjlchnmpebdggaaDoor.Mo
end
