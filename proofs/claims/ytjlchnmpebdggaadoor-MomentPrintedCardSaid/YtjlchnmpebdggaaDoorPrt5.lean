import Derived.Test.YtjlchnmpebdggaaDoorPrt4
import Derived.Test.YtjlchnmpebdggaaDoorPrt3
import Derived.Test.YtjlchnmpebdggaaDoorPrt1
import Derived.Maps.OwnOps
import Derived.Maps.Views
import Derived.Maps.Keyed
import Derived.Laws.Rows
import Derived.BigRegion
import Derived.Test.YtjlchnmpebdggaaDoorPrt2
import Derived.Deep.QuietTactic
import Derived.BigQuiet
import Derived.IntWalk
section
namespace Go.Proofs.YtjlchnmpebdggaaDoor.Mo
open Go.RowKit Go.Proofs.YtjlchnmpebdggaaDoorW.PrintWords Go.Proofs.YtjlchnmpebdggaaDoorW.PrintLast Go.Proofs.YtjlchnmpebdggaaDoorW.PrintMore
set_option linter.unusedSimpArgs false
set_option linter.unusedVariables false
attribute [local go_sem] max2_int min2_int max_two min_two
theorem ret_tup2 {a b : Int} {p r : Bool} (h : a = b) (h2 : p = r) : Ending.returned (.tuple #[.int .i64 a, .bool p]) = .returned (.tuple #[.int .i64 b, .bool r]) := by rw [h, h2]
abbrev St := Nat × Int × ByteArray
def CurS (c t : Nat) (s : ByteArray) (q : St) (w : World) : Prop := Cur c t s q.1 q.2.1 q.2.2 w
def nx (s : ByteArray) (q : St) : St := nextP s q.1
theorem nx_calls (c t : Nat) (s : ByteArray) (q : St) (w : World) (hs : s.size ≤ 140737488351232) (hi : q.1 ≤ s.size) (hc : CurS c t s q w) :
    Calls Tryd.prog 52 #[.pointer (some ⟨c, 0, none⟩)] w fun e w' => e = .returned (.tuple #[]) ∧ CurS c t s (nx s q) w' ∧ Turned c w w' := next_calls c t s q.1 q.2.1 q.2.2 w hs hi hc
theorem nx_le (s : ByteArray) (q : St) (h : q.1 ≤ s.size) : (nx s q).1 ≤ s.size := nextP_le s q.1 h
theorem sign_calls (c t : Nat) (s : ByteArray) (q : St) (kind : Int) (w : World) (hs : s.size ≤ 140737488351232) (hi : q.1 ≤ s.size) (hc : CurS c t s q w) :
    Calls Tryd.prog 57 #[.pointer (some ⟨c, 0, none⟩), .int .i64 kind] w fun e w' => e = .returned (.bool (q.2.1 == kind)) ∧ CurS c t s (nx s q) w' ∧ Turned c w w' := by
  obtain ⟨i, k, x⟩ := q
  obtain ⟨c0, c1, c2, c3, z1, z2, z3⟩ := cur4 hc
  have HC := Lib.hid hc
  clear hc
  go_enter Tryd.func57, Tryd.ntmps57
  go_wp2_with fail
  refine (nx_calls c t s (i, k, x) _ hs hi HC.out).mono ?_
  rintro e w1 ⟨rfl, h1, h2⟩
  have H1 := Lib.hid h1
  have H2 := Lib.hid h2
  clear h1 h2 c0 c1 c2 c3 z1 z2 z3
  go_wp2
  go_ret
  exact ⟨rfl, H1.out, H2.out⟩
def shortP (most : Int) (q : St) : Int × Bool := ((digitsP q.2.2).1, (digitsP q.2.2).2 && (q.2.1 == 2 && (decide (q.2.2.size ≤ 2) && decide ((digitsP q.2.2).1 ≤ most))))
set_option maxHeartbeats 1000000 in
theorem short_calls (c t : Nat) (s : ByteArray) (q : St) (most : Int) (w : World) (hs : s.size ≤ 140737488351232) (hi : q.1 ≤ s.size) (hc : CurS c t s q w) :
    Calls Tryd.prog 54 #[.pointer (some ⟨c, 0, none⟩), .int .i64 most] w fun e w' => e = .returned (.tuple #[.int .i64 (shortP most q).1, .bool (shortP most q).2]) ∧ CurS c t s (nx s q) w' ∧ Turned c w w' := by
  obtain ⟨i, k, x⟩ := q
  obtain ⟨c0, c1, c2, c3, z1, z2, z3⟩ := cur4 hc
  have HC := Lib.hid hc
  have hd : moment_digits.f 7 x = some ((digitsP x).1, (digitsP x).2) := digits_f 7 (by omega) x
  show Calls Tryd.prog 54 _ w fun e w' => e = .returned (.tuple #[.int .i64 (digitsP x).1, .bool ((digitsP x).2 && (k == 2 && (decide (x.size ≤ 2) && decide ((digitsP x).1 ≤ most))))]) ∧ _
  generalize (digitsP x).1 = D1 at *
  generalize (digitsP x).2 = D2 at *
  have HD := Lib.hid hd
  clear hc hd
  go_enter Tryd.func54, Tryd.ntmps54
  go_wp2_with (go_at_call 68; refine (moment_digits.calls 7 x D1 D2 _ HD.out).mono ?_; rintro e w1 ⟨rfl, ⟨nd, rfl⟩⟩)
  all_goals
    refine (nx_calls c t s (i, k, x) _ hs hi (by exact HC.out)).mono ?_
    rintro e w1 ⟨rfl, h1, h2⟩
    have H1 := Lib.hid h1
    have H2 := Lib.hid ((Turned.refl c w).drewN nd |>.trans h2)
    clear h1 h2 c0 c1 c2 c3 z1 z2 z3 HC
    go_wp2
    go_ret2
    exact ⟨ret_tup2 (by first | rfl | (simp [*]; done) | (simp [*]; omega)) (by first | rfl | (simp [*]; done) | (simp [*]; omega)), H1.out, H2.out⟩
def yearP (q : St) : Int × Bool :=
  (if q.2.2.size = 2 then (if (digitsP q.2.2).1 + 1900 < 1950 then (digitsP q.2.2).1 + 2000 else (digitsP q.2.2).1 + 1900) else if q.2.2.size = 3 then (digitsP q.2.2).1 + 1900 else (digitsP q.2.2).1,
   decide (q.2.2.size ≠ 1) && ((digitsP q.2.2).2 && q.2.1 == 2))
theorem digitsP_bound (s : ByteArray) : 0 ≤ (digitsP s).1 ∧ (digitsP s).1 < 10000 := by
  unfold digitsP
  split
  · rename_i h
    have := dval_bound _ h.2.2
    have h4 : (10 : Int) ^ s.data.toList.length ≤ 10 ^ 4 := by
      rw [toList_len]
      have h4 : s.size = 1 ∨ s.size = 2 ∨ s.size = 3 ∨ s.size = 4 := by omega
      rcases h4 with h | h | h | h <;> rw [h] <;> decide
    exact ⟨this.1, by have := this.2; omega⟩
  · exact ⟨by decide, by decide⟩
set_option maxHeartbeats 4000000 in
theorem year_calls (c t : Nat) (s : ByteArray) (q : St) (w : World) (hs : s.size ≤ 140737488351232) (hi : q.1 ≤ s.size) (hc : CurS c t s q w) :
    Calls Tryd.prog 56 #[.pointer (some ⟨c, 0, none⟩)] w fun e w' => e = .returned (.tuple #[.int .i64 (yearP q).1, .bool (yearP q).2]) ∧ CurS c t s (nx s q) w' ∧ Turned c w w' := by
  obtain ⟨i, k, x⟩ := q
  obtain ⟨c0, c1, c2, c3, z1, z2, z3⟩ := cur4 hc
  have HC := Lib.hid hc
  have hd : moment_digits.f 7 x = some ((digitsP x).1, (digitsP x).2) := digits_f 7 (by omega) x
  obtain ⟨hb0, hb1⟩ := digitsP_bound x
  have HNX := Lib.hid (fun w h => nx_calls c t s (i, k, x) w hs hi h)
  have hY : yearP (i, k, x) = (if x.size = 2 then (if (digitsP x).1 + 1900 < 1950 then (digitsP x).1 + 2000 else (digitsP x).1 + 1900) else if x.size = 3 then (digitsP x).1 + 1900 else (digitsP x).1,
   decide (x.size ≠ 1) && ((digitsP x).2 && k == 2)) := rfl
  generalize (digitsP x).1 = D1 at *
  generalize (digitsP x).2 = D2 at *
  generalize nx s (i, k, x) = q1 at *
  have HD := Lib.hid hd
  clear hc hd
  by_cases h1 : x.size = 1
  · have hsz := h1
    have g1 : ((x.size : Int) == 1) = true := by rw [beq_iff_eq]; omega
    clear h1
    cases D2 with
    | false =>
      have e : yearP (i, k, x) = (D1, false) := by rw [hY]; simp [hsz]
      rw [e]
      clear e hY hsz
      go_enter Tryd.func56, Tryd.ntmps56
      go_wp2_with (go_at_call 68; refine (moment_digits.calls 7 x D1 false _ HD.out).mono ?_; rintro e w1 ⟨rfl, ⟨nd, rfl⟩⟩)
      refine (HNX.out _ (by exact HC.out)).mono ?_
      rintro e w1 ⟨rfl, h1_, h2_⟩
      have H1 := Lib.hid h1_
      have H2 := Lib.hid ((Turned.refl c w).drewN nd |>.trans h2_)
      clear h1_ h2_ c0 c1 c2 c3 z1 z2 z3 HC
      go_wp2
      go_ret2
      exact ⟨ret_tup2 (by omega) rfl, H1.out, H2.out⟩
    | true =>
      by_cases hk : k = 2
      · have gk : (k == 2) = true := by rw [beq_iff_eq]; exact hk
        have e : yearP (i, k, x) = (D1, false) := by rw [hY]; simp [hsz, hk]
        rw [e]
        clear e hY hk hsz
        go_enter Tryd.func56, Tryd.ntmps56
        go_wp2_with (go_at_call 68; refine (moment_digits.calls 7 x D1 true _ HD.out).mono ?_; rintro e w1 ⟨rfl, ⟨nd, rfl⟩⟩)
        refine (HNX.out _ (by exact HC.out)).mono ?_
        rintro e w1 ⟨rfl, h1_, h2_⟩
        have H1 := Lib.hid h1_
        have H2 := Lib.hid ((Turned.refl c w).drewN nd |>.trans h2_)
        clear h1_ h2_ c0 c1 c2 c3 z1 z2 z3 HC
        go_wp2
        go_ret2
        exact ⟨ret_tup2 (by omega) rfl, H1.out, H2.out⟩
      · have gk : (k == 2) = false := by rw [beq_eq_false_iff_ne]; exact hk
        have e : yearP (i, k, x) = (D1, false) := by rw [hY]; simp [hsz, hk]
        rw [e]
        clear e hY hk hsz
        go_enter Tryd.func56, Tryd.ntmps56
        go_wp2_with (go_at_call 68; refine (moment_digits.calls 7 x D1 true _ HD.out).mono ?_; rintro e w1 ⟨rfl, ⟨nd, rfl⟩⟩)
        refine (HNX.out _ (by exact HC.out)).mono ?_
        rintro e w1 ⟨rfl, h1_, h2_⟩
        have H1 := Lib.hid h1_
        have H2 := Lib.hid ((Turned.refl c w).drewN nd |>.trans h2_)
        clear h1_ h2_ c0 c1 c2 c3 z1 z2 z3 HC
        go_wp2
        go_ret2
        exact ⟨ret_tup2 (by omega) rfl, H1.out, H2.out⟩
  · by_cases h2 : x.size = 2
    · have hsz := h2
      have g1 : ((x.size : Int) == 1) = false := by rw [beq_eq_false_iff_ne]; omega
      have g2 : ((x.size : Int) == 2) = true := by rw [beq_iff_eq]; omega
      clear h1 h2
      by_cases h1950 : D1 + 1900 < 1950
      · skip
        cases D2 with
        | false =>
          have e : yearP (i, k, x) = (D1 + 2000, false) := by rw [hY]; simp [hsz, h1950]
          rw [e]
          clear e hY hsz
          go_enter Tryd.func56, Tryd.ntmps56
          go_wp2_with (go_at_call 68; refine (moment_digits.calls 7 x D1 false _ HD.out).mono ?_; rintro e w1 ⟨rfl, ⟨nd, rfl⟩⟩)
          refine (HNX.out _ (by exact HC.out)).mono ?_
          rintro e w1 ⟨rfl, h1_, h2_⟩
          have H1 := Lib.hid h1_
          have H2 := Lib.hid ((Turned.refl c w).drewN nd |>.trans h2_)
          clear h1_ h2_ c0 c1 c2 c3 z1 z2 z3 HC
          go_wp2
          go_ret2
          exact ⟨ret_tup2 (by omega) rfl, H1.out, H2.out⟩
        | true =>
          by_cases hk : k = 2
          · have gk : (k == 2) = true := by rw [beq_iff_eq]; exact hk
            have e : yearP (i, k, x) = (D1 + 2000, true) := by rw [hY]; simp [hsz, hk, h1950]
            rw [e]
            clear e hY hk hsz
            go_enter Tryd.func56, Tryd.ntmps56
            go_wp2_with (go_at_call 68; refine (moment_digits.calls 7 x D1 true _ HD.out).mono ?_; rintro e w1 ⟨rfl, ⟨nd, rfl⟩⟩)
            refine (HNX.out _ (by exact HC.out)).mono ?_
            rintro e w1 ⟨rfl, h1_, h2_⟩
            have H1 := Lib.hid h1_
            have H2 := Lib.hid ((Turned.refl c w).drewN nd |>.trans h2_)
            clear h1_ h2_ c0 c1 c2 c3 z1 z2 z3 HC
            go_wp2
            go_ret2
            exact ⟨ret_tup2 (by omega) rfl, H1.out, H2.out⟩
          · have gk : (k == 2) = false := by rw [beq_eq_false_iff_ne]; exact hk
            have e : yearP (i, k, x) = (D1 + 2000, false) := by rw [hY]; simp [hsz, hk, h1950]
            rw [e]
            clear e hY hk hsz
            go_enter Tryd.func56, Tryd.ntmps56
            go_wp2_with (go_at_call 68; refine (moment_digits.calls 7 x D1 true _ HD.out).mono ?_; rintro e w1 ⟨rfl, ⟨nd, rfl⟩⟩)
            refine (HNX.out _ (by exact HC.out)).mono ?_
            rintro e w1 ⟨rfl, h1_, h2_⟩
            have H1 := Lib.hid h1_
            have H2 := Lib.hid ((Turned.refl c w).drewN nd |>.trans h2_)
            clear h1_ h2_ c0 c1 c2 c3 z1 z2 z3 HC
            go_wp2
            go_ret2
            exact ⟨ret_tup2 (by omega) rfl, H1.out, H2.out⟩
      · skip
        cases D2 with
        | false =>
          have e : yearP (i, k, x) = (D1 + 1900, false) := by rw [hY]; simp [hsz, h1950]
          rw [e]
          clear e hY hsz
          go_enter Tryd.func56, Tryd.ntmps56
          go_wp2_with (go_at_call 68; refine (moment_digits.calls 7 x D1 false _ HD.out).mono ?_; rintro e w1 ⟨rfl, ⟨nd, rfl⟩⟩)
          refine (HNX.out _ (by exact HC.out)).mono ?_
          rintro e w1 ⟨rfl, h1_, h2_⟩
          have H1 := Lib.hid h1_
          have H2 := Lib.hid ((Turned.refl c w).drewN nd |>.trans h2_)
          clear h1_ h2_ c0 c1 c2 c3 z1 z2 z3 HC
          go_wp2
          go_ret2
          exact ⟨ret_tup2 (by omega) rfl, H1.out, H2.out⟩
        | true =>
          by_cases hk : k = 2
          · have gk : (k == 2) = true := by rw [beq_iff_eq]; exact hk
            have e : yearP (i, k, x) = (D1 + 1900, true) := by rw [hY]; simp [hsz, hk, h1950]
            rw [e]
            clear e hY hk hsz
            go_enter Tryd.func56, Tryd.ntmps56
            go_wp2_with (go_at_call 68; refine (moment_digits.calls 7 x D1 true _ HD.out).mono ?_; rintro e w1 ⟨rfl, ⟨nd, rfl⟩⟩)
            refine (HNX.out _ (by exact HC.out)).mono ?_
            rintro e w1 ⟨rfl, h1_, h2_⟩
            have H1 := Lib.hid h1_
            have H2 := Lib.hid ((Turned.refl c w).drewN nd |>.trans h2_)
            clear h1_ h2_ c0 c1 c2 c3 z1 z2 z3 HC
            go_wp2
            go_ret2
            exact ⟨ret_tup2 (by omega) rfl, H1.out, H2.out⟩
          · have gk : (k == 2) = false := by rw [beq_eq_false_iff_ne]; exact hk
            have e : yearP (i, k, x) = (D1 + 1900, false) := by rw [hY]; simp [hsz, hk, h1950]
            rw [e]
            clear e hY hk hsz
            go_enter Tryd.func56, Tryd.ntmps56
            go_wp2_with (go_at_call 68; refine (moment_digits.calls 7 x D1 true _ HD.out).mono ?_; rintro e w1 ⟨rfl, ⟨nd, rfl⟩⟩)
            refine (HNX.out _ (by exact HC.out)).mono ?_
            rintro e w1 ⟨rfl, h1_, h2_⟩
            have H1 := Lib.hid h1_
            have H2 := Lib.hid ((Turned.refl c w).drewN nd |>.trans h2_)
            clear h1_ h2_ c0 c1 c2 c3 z1 z2 z3 HC
            go_wp2
            go_ret2
            exact ⟨ret_tup2 (by omega) rfl, H1.out, H2.out⟩
    · by_cases h3 : x.size = 3
      · have hsz := h3
        have g1 : ((x.size : Int) == 1) = false := by rw [beq_eq_false_iff_ne]; omega
        have g2 : ((x.size : Int) == 2) = false := by rw [beq_eq_false_iff_ne]; omega
        have g3 : ((x.size : Int) == 3) = true := by rw [beq_iff_eq]; omega
        clear h1 h2 h3
        cases D2 with
        | false =>
          have e : yearP (i, k, x) = (D1 + 1900, false) := by rw [hY]; simp [hsz]
          rw [e]
          clear e hY hsz
          go_enter Tryd.func56, Tryd.ntmps56
          go_wp2_with (go_at_call 68; refine (moment_digits.calls 7 x D1 false _ HD.out).mono ?_; rintro e w1 ⟨rfl, ⟨nd, rfl⟩⟩)
          refine (HNX.out _ (by exact HC.out)).mono ?_
          rintro e w1 ⟨rfl, h1_, h2_⟩
          have H1 := Lib.hid h1_
          have H2 := Lib.hid ((Turned.refl c w).drewN nd |>.trans h2_)
          clear h1_ h2_ c0 c1 c2 c3 z1 z2 z3 HC
          go_wp2
          go_ret2
          exact ⟨ret_tup2 (by omega) rfl, H1.out, H2.out⟩
        | true =>
          by_cases hk : k = 2
          · have gk : (k == 2) = true := by rw [beq_iff_eq]; exact hk
            have e : yearP (i, k, x) = (D1 + 1900, true) := by rw [hY]; simp [hsz, hk]
            rw [e]
            clear e hY hk hsz
            go_enter Tryd.func56, Tryd.ntmps56
            go_wp2_with (go_at_call 68; refine (moment_digits.calls 7 x D1 true _ HD.out).mono ?_; rintro e w1 ⟨rfl, ⟨nd, rfl⟩⟩)
            refine (HNX.out _ (by exact HC.out)).mono ?_
            rintro e w1 ⟨rfl, h1_, h2_⟩
            have H1 := Lib.hid h1_
            have H2 := Lib.hid ((Turned.refl c w).drewN nd |>.trans h2_)
            clear h1_ h2_ c0 c1 c2 c3 z1 z2 z3 HC
            go_wp2
            go_ret2
            exact ⟨ret_tup2 (by omega) rfl, H1.out, H2.out⟩
          · have gk : (k == 2) = false := by rw [beq_eq_false_iff_ne]; exact hk
            have e : yearP (i, k, x) = (D1 + 1900, false) := by rw [hY]; simp [hsz, hk]
            rw [e]
            clear e hY hk hsz
            go_enter Tryd.func56, Tryd.ntmps56
            go_wp2_with (go_at_call 68; refine (moment_digits.calls 7 x D1 true _ HD.out).mono ?_; rintro e w1 ⟨rfl, ⟨nd, rfl⟩⟩)
            refine (HNX.out _ (by exact HC.out)).mono ?_
            rintro e w1 ⟨rfl, h1_, h2_⟩
            have H1 := Lib.hid h1_
            have H2 := Lib.hid ((Turned.refl c w).drewN nd |>.trans h2_)
            clear h1_ h2_ c0 c1 c2 c3 z1 z2 z3 HC
            go_wp2
            go_ret2
            exact ⟨ret_tup2 (by omega) rfl, H1.out, H2.out⟩
      · skip
        have g1 : ((x.size : Int) == 1) = false := by rw [beq_eq_false_iff_ne]; omega
        have g2 : ((x.size : Int) == 2) = false := by rw [beq_eq_false_iff_ne]; omega
        have g3 : ((x.size : Int) == 3) = false := by rw [beq_eq_false_iff_ne]; omega
        cases D2 with
        | false =>
          have e : yearP (i, k, x) = (D1, false) := by rw [hY]; simp [h1, h2, h3]
          rw [e]
          clear e hY h1 h2 h3
          go_enter Tryd.func56, Tryd.ntmps56
          go_wp2_with (go_at_call 68; refine (moment_digits.calls 7 x D1 false _ HD.out).mono ?_; rintro e w1 ⟨rfl, ⟨nd, rfl⟩⟩)
          refine (HNX.out _ (by exact HC.out)).mono ?_
          rintro e w1 ⟨rfl, h1_, h2_⟩
          have H1 := Lib.hid h1_
          have H2 := Lib.hid ((Turned.refl c w).drewN nd |>.trans h2_)
          clear h1_ h2_ c0 c1 c2 c3 z1 z2 z3 HC
          go_wp2
          go_ret2
          exact ⟨ret_tup2 (by omega) rfl, H1.out, H2.out⟩
        | true =>
          by_cases hk : k = 2
          · have gk : (k == 2) = true := by rw [beq_iff_eq]; exact hk
            have e : yearP (i, k, x) = (D1, true) := by rw [hY]; simp [h1, h2, h3, hk]
            rw [e]
            clear e hY hk h1 h2 h3
            go_enter Tryd.func56, Tryd.ntmps56
            go_wp2_with (go_at_call 68; refine (moment_digits.calls 7 x D1 true _ HD.out).mono ?_; rintro e w1 ⟨rfl, ⟨nd, rfl⟩⟩)
            refine (HNX.out _ (by exact HC.out)).mono ?_
            rintro e w1 ⟨rfl, h1_, h2_⟩
            have H1 := Lib.hid h1_
            have H2 := Lib.hid ((Turned.refl c w).drewN nd |>.trans h2_)
            clear h1_ h2_ c0 c1 c2 c3 z1 z2 z3 HC
            go_wp2
            go_ret2
            exact ⟨ret_tup2 (by omega) rfl, H1.out, H2.out⟩
          · have gk : (k == 2) = false := by rw [beq_eq_false_iff_ne]; exact hk
            have e : yearP (i, k, x) = (D1, false) := by rw [hY]; simp [h1, h2, h3, hk]
            rw [e]
            clear e hY hk h1 h2 h3
            go_enter Tryd.func56, Tryd.ntmps56
            go_wp2_with (go_at_call 68; refine (moment_digits.calls 7 x D1 true _ HD.out).mono ?_; rintro e w1 ⟨rfl, ⟨nd, rfl⟩⟩)
            refine (HNX.out _ (by exact HC.out)).mono ?_
            rintro e w1 ⟨rfl, h1_, h2_⟩
            have H1 := Lib.hid h1_
            have H2 := Lib.hid ((Turned.refl c w).drewN nd |>.trans h2_)
            clear h1_ h2_ c0 c1 c2 c3 z1 z2 z3 HC
            go_wp2
            go_ret2
            exact ⟨ret_tup2 (by omega) rfl, H1.out, H2.out⟩
def secondP (s : ByteArray) (q : St) : Int × Bool := if q.2.1 = 5 then (if 59 < (shortP 60 (nx s q)).1 then 59 else (shortP 60 (nx s q)).1, (shortP 60 (nx s q)).2) else (0, true)
def secondS (s : ByteArray) (q : St) : St := if q.2.1 = 5 then nx s (nx s q) else q
set_option maxHeartbeats 1000000 in
theorem second_calls (c t : Nat) (s : ByteArray) (q : St) (w : World) (hs : s.size ≤ 140737488351232) (hi : q.1 ≤ s.size) (hc : CurS c t s q w) :
    Calls Tryd.prog 58 #[.pointer (some ⟨c, 0, none⟩)] w fun e w' => e = .returned (.tuple #[.int .i64 (secondP s q).1, .bool (secondP s q).2]) ∧ CurS c t s (secondS s q) w' ∧ Turned c w w' := by
  obtain ⟨i, k, x⟩ := q
  obtain ⟨c0, c1, c2, c3, z1, z2, z3⟩ := cur4 hc
  have HC := Lib.hid hc
  clear hc
  by_cases hk : k = 5
  · have e1 : secondP s (i, k, x) = (if 59 < (shortP 60 (nx s (i, k, x))).1 then 59 else (shortP 60 (nx s (i, k, x))).1, (shortP 60 (nx s (i, k, x))).2) := if_pos hk
    have e2 : secondS s (i, k, x) = nx s (nx s (i, k, x)) := if_pos hk
    rw [e1, e2]
    have hg : (k != 5) = false := by rw [bne_eq_false_iff_eq]; exact hk
    have hi2 := nx_le s (i, k, x) hi
    have HNX := Lib.hid (nx_calls c t s (i, k, x) w hs hi HC.out)
    have hsh := fun w h => short_calls c t s (nx s (i, k, x)) 60 w hs hi2 h
    dsimp only
    generalize nx s (i, k, x) = q1 at *
    obtain ⟨S1, S2, hS⟩ : ∃ S1 S2, shortP 60 q1 = (S1, S2) := ⟨_, _, rfl⟩
    rw [hS] at hsh ⊢
    dsimp only at hsh ⊢
    have HSH := Lib.hid hsh
    clear hsh e1 e2 hk hS
    go_enter Tryd.func58, Tryd.ntmps58
    go_wp2_with fail
    refine HNX.out.mono ?_
    rintro e w1 ⟨rfl, h1, h2⟩
    have H1 := Lib.hid h1
    have H2 := Lib.hid h2
    clear h1 h2 c0 c1 c2 c3 z1 z2 z3 HC
    go_wp2_with fail
    refine (HSH.out _ H1.out).mono ?_
    rintro e w2 ⟨rfl, h1, h2⟩
    have H3 := Lib.hid h1
    have H4 := Lib.hid (H2.out.trans h2)
    clear h1 h2
    go_wp2
    all_goals
      go_ret2
      exact ⟨ret_tup2 (by first | rfl | (simp [*]; done) | (simp [*]; omega)) rfl, H3.out, H4.out⟩
  · have e1 : secondP s (i, k, x) = (0, true) := if_neg hk
    have e2 : secondS s (i, k, x) = (i, k, x) := if_neg hk
    rw [e1, e2]
    have hg : (k != 5) = true := by rw [bne_iff_ne]; exact hk
    clear e1 e2
    go_enter Tryd.func58, Tryd.ntmps58
    go_wp2
    go_ret2
    exact ⟨rfl, HC.out, Turned.refl _ _⟩
end Go.Proofs.YtjlchnmpebdggaaDoor.Mo
end
section
namespace Go.Proofs.YtjlchnmpebdggaaDoor.Mo
open Go.RowKit Go.Proofs.YtjlchnmpebdggaaDoorW.PrintWords
theorem nx_text (s : ByteArray) (q : St) : (nx s q).2.2.size ≤ s.size := by
  unfold nx nextP
  simp only
  split
  · show 0 ≤ _; omega
  · simp only [ByteArray.size_extract]; omega
def weekP (s : ByteArray) (q : St) : Bool := if q.2.1 = 1 then (nx s q).2.1 == 4 && decide (0 ≤ placeP q.2.2 weekL 0) else true
def weekS (s : ByteArray) (q : St) : St := if q.2.1 = 1 then nx s (nx s q) else q
def monthP (q : St) : Int × Bool := if q.2.1 = 1 then (placeP q.2.2 monthL 0 + 1, decide (0 ≤ placeP q.2.2 monthL 0)) else (0, false)
set_option maxHeartbeats 1000000 in
theorem week_calls (c t : Nat) (s : ByteArray) (q : St) (w : World) (hs : s.size ≤ 140737488351232) (hi : q.1 ≤ s.size) (hx : q.2.2.size ≤ 140737488351232) (hc : CurS c t s q w) (hcl : c < w.heap.size) :
    Calls Tryd.prog 53 #[.pointer (some ⟨c, 0, none⟩)] w fun e w' => e = .returned (.bool (weekP s q)) ∧ CurS c t s (weekS s q) w' ∧ Turned c w w' := by
  obtain ⟨i, k, x⟩ := q
  obtain ⟨c0, c1, c2, c3, z1, z2, z3⟩ := cur4 hc
  have HC := Lib.hid hc
  clear hc
  by_cases hk : k = 1
  · have e1 : weekP s (i, k, x) = ((nx s (i, k, x)).2.1 == 4 && decide (0 ≤ placeP x weekL 0)) := if_pos hk
    have e2 : weekS s (i, k, x) = nx s (nx s (i, k, x)) := if_pos hk
    rw [e1, e2]
    have hg : (k != 1) = false := by rw [bne_eq_false_iff_eq]; exact hk
    have hi2 := nx_le s (i, k, x) hi
    have HNX := Lib.hid (fun w h => nx_calls c t s (i, k, x) w hs hi h)
    have hsh := fun w h => sign_calls c t s (nx s (i, k, x)) 4 w hs hi2 h
    generalize nx s (i, k, x) = q1 at *
    have HSH := Lib.hid hsh
    obtain ⟨P, hP⟩ : ∃ P, placeP x weekL 0 = P := ⟨_, rfl⟩
    rw [hP]
    have HP := Lib.hid hP
    have hx' : x.size ≤ 140737488351232 := hx
    clear hsh e1 e2 hk hP hx
    go_enter Tryd.func53, Tryd.ntmps53
    go_wp2_with fail
    refine (weekdays_calls _).mono ?_
    rintro e w1 ⟨rfl, hb1⟩
    go_wp2_with fail
    have hrow := heap_alloc_new w1 (.cells (weekL.map Value.string).toArray 69)
    have hT := ((Turned.refl c w).made hb1).alloc (.cells (weekL.map Value.string).toArray 69)
    have hC : CurS c t s (i, k, x) (w1.alloc (.cells (weekL.map Value.string).toArray 69)) := by
      have h : w.heap[c]? = some (.cells #[.string s, .int .i64 i, .int .i64 k, .string x] t (0, 0)) := HC.out
      show (w1.alloc (.cells (weekL.map Value.string).toArray 69)).heap[c]? = _
      rw [Below.heap_alloc _ _ _ (Nat.lt_of_lt_of_le hcl hb1.size), hb1.block c hcl, h]
    obtain ⟨g, hg1⟩ : ∃ g, w1.heap.size = g := ⟨_, rfl⟩
    obtain ⟨w2, hw2⟩ : ∃ w2, w1.alloc (.cells (weekL.map Value.string).toArray 69) = w2 := ⟨_, rfl⟩
    rw [hw2] at hrow hT hC
    rw [hg1] at hrow ⊢
    rw [show w1.alloc (Obj.cells #[Value.string ⟨#[83, 117, 110]⟩, .string ⟨#[77, 111, 110]⟩, .string ⟨#[84, 117, 101]⟩, .string ⟨#[87, 101, 100]⟩, .string ⟨#[84, 104, 117]⟩, .string ⟨#[70, 114, 105]⟩, .string ⟨#[83, 97, 116]⟩] 69) = w2 from hw2]
    have hglt : g < w2.heap.size := (Array.getElem?_eq_some_iff.1 hrow).1
    have hcl2 : c < w2.heap.size := Nat.lt_of_lt_of_le hcl hT.size
    have HROW := Lib.hid hrow
    have HT := Lib.hid hT
    have HC2 := Lib.hid hC
    clear hrow hw2 hg1 hb1 hT hC c0 c1 c2 c3 z1 z2 z3 HC
    obtain ⟨c0, c1, c2, c3, z1, z2, z3⟩ := cur4 HC2.out
    go_region_with (go_at_call 92; refine (place_calls weekL g 7 x _ hx' (by decide) week_small (fun j x hx => week_cells (by exact HROW.out) j x hx) (by exact hglt)).mono ?_; rw [HP.out]; rintro e w3 ⟨rfl, hb3⟩; have HT3 := Lib.hid (HT.out.drew.made hb3); have HC3 := Lib.hid ((hb3.block c (by exact hcl2)).trans HC2.out); clear hb3)
    go_wp2_with fail
    refine (HNX.out _ (by exact HC3.out)).mono ?_
    rintro e w4 ⟨rfl, h1, h2⟩
    have H1 := Lib.hid h1
    have H2 := Lib.hid (HT3.out.trans h2)
    clear h1 h2 c0 c1 c2 c3 z1 z2 z3 HT3 HC3
    go_wp2_with fail
    refine (HSH.out _ H1.out).mono ?_
    rintro e w5 ⟨rfl, h3, h4⟩
    have H3 := Lib.hid h3
    have H4 := Lib.hid (H2.out.trans h4)
    clear h3 h4
    by_cases hq : q1.2.1 = 4
    · have hq2 : (q1.2.1 == 4) = true := by rw [beq_iff_eq]; exact hq
      go_wp2
      go_ret
      exact ⟨by simp [hq], H3.out, H4.out⟩
    · have hq2 : (q1.2.1 == 4) = false := by rw [beq_eq_false_iff_ne]; exact hq
      go_wp2
      go_ret
      exact ⟨by simp [hq], H3.out, H4.out⟩
  · have e1 : weekP s (i, k, x) = true := if_neg hk
    have e2 : weekS s (i, k, x) = (i, k, x) := if_neg hk
    rw [e1, e2]
    have hg : (k != 1) = true := by rw [bne_iff_ne]; exact hk
    clear e1 e2 hx
    go_enter Tryd.func53, Tryd.ntmps53
    go_wp2
    go_ret
    exact ⟨rfl, HC.out, Turned.refl _ _⟩
set_option maxHeartbeats 1000000 in
theorem month_calls (c t : Nat) (s : ByteArray) (q : St) (w : World) (hs : s.size ≤ 140737488351232) (hi : q.1 ≤ s.size) (hx : q.2.2.size ≤ 140737488351232) (hc : CurS c t s q w) (hcl : c < w.heap.size) :
    Calls Tryd.prog 55 #[.pointer (some ⟨c, 0, none⟩)] w fun e w' => e = .returned (.tuple #[.int .i64 (monthP q).1, .bool (monthP q).2]) ∧ CurS c t s (nx s q) w' ∧ Turned c w w' := by
  obtain ⟨i, k, x⟩ := q
  obtain ⟨c0, c1, c2, c3, z1, z2, z3⟩ := cur4 hc
  have HC := Lib.hid hc
  clear hc
  have HNX := Lib.hid (fun w h => nx_calls c t s (i, k, x) w hs hi h)
  by_cases hk : k = 1
  · have e1 : monthP (i, k, x) = (placeP x monthL 0 + 1, decide (0 ≤ placeP x monthL 0)) := if_pos hk
    rw [e1]
    have hg : (k == 1) = true := by rw [beq_iff_eq]; exact hk
    have hr := placeP_range x monthL 0
    obtain ⟨P, hP⟩ : ∃ P, placeP x monthL 0 = P := ⟨_, rfl⟩
    rw [hP] at hr ⊢
    have hr0 : -1 ≤ P := hr.1
    have hr1 : P < 12 := hr.2
    have HP := Lib.hid hP
    have hx' : x.size ≤ 140737488351232 := hx
    generalize nx s (i, k, x) = q1 at *
    dsimp only
    clear e1 hk hP hx hr
    go_enter Tryd.func55, Tryd.ntmps55
    go_wp2_with fail
    refine (months_calls _).mono ?_
    rintro e w1 ⟨rfl, hb1⟩
    go_wp2_with fail
    have hrow := heap_alloc_new w1 (.cells (monthL.map Value.string).toArray 71)
    have hT := ((Turned.refl c w).made hb1).alloc (.cells (monthL.map Value.string).toArray 71)
    have hC : CurS c t s (i, k, x) (w1.alloc (.cells (monthL.map Value.string).toArray 71)) := by
      have h : w.heap[c]? = some (.cells #[.string s, .int .i64 i, .int .i64 k, .string x] t (0, 0)) := HC.out
      show (w1.alloc (.cells (monthL.map Value.string).toArray 71)).heap[c]? = _
      rw [Below.heap_alloc _ _ _ (Nat.lt_of_lt_of_le hcl hb1.size), hb1.block c hcl, h]
    obtain ⟨g, hg1⟩ : ∃ g, w1.heap.size = g := ⟨_, rfl⟩
    obtain ⟨w2, hw2⟩ : ∃ w2, w1.alloc (.cells (monthL.map Value.string).toArray 71) = w2 := ⟨_, rfl⟩
    rw [hw2] at hrow hT hC
    rw [hg1] at hrow ⊢
    rw [show w1.alloc (Obj.cells #[Value.string ⟨#[74, 97, 110]⟩, .string ⟨#[70, 101, 98]⟩, .string ⟨#[77, 97, 114]⟩, .string ⟨#[65, 112, 114]⟩, .string ⟨#[77, 97, 121]⟩, .string ⟨#[74, 117, 110]⟩, .string ⟨#[74, 117, 108]⟩, .string ⟨#[65, 117, 103]⟩, .string ⟨#[83, 101, 112]⟩, .string ⟨#[79, 99, 116]⟩, .string ⟨#[78, 111, 118]⟩, .string ⟨#[68, 101, 99]⟩] 71) = w2 from hw2]
    have hglt : g < w2.heap.size := (Array.getElem?_eq_some_iff.1 hrow).1
    have hcl2 : c < w2.heap.size := Nat.lt_of_lt_of_le hcl hT.size
    have HROW := Lib.hid hrow
    have HT := Lib.hid hT
    have HC2 := Lib.hid hC
    clear hrow hw2 hg1 hb1 hT hC c0 c1 c2 c3 z1 z2 z3 HC
    obtain ⟨c0, c1, c2, c3, z1, z2, z3⟩ := cur4 HC2.out
    go_region_with (go_at_call 92; refine (place_calls monthL g 12 x _ hx' (by decide) month_small (fun j x hx => month_cells (by exact HROW.out) j x hx) (by exact hglt)).mono ?_; rw [HP.out]; rintro e w3 ⟨rfl, hb3⟩; have HT3 := Lib.hid (HT.out.drew.made hb3); have HC3 := Lib.hid ((hb3.block c (by exact hcl2)).trans HC2.out); clear hb3)
    go_wp2_with fail
    refine (HNX.out _ (by exact HC3.out)).mono ?_
    rintro e w4 ⟨rfl, h1, h2⟩
    have H1 := Lib.hid h1
    have H2 := Lib.hid (HT3.out.trans h2)
    clear h1 h2 c0 c1 c2 c3 z1 z2 z3 HT3 HC3
    go_wp2
    go_ret2
    exact ⟨rfl, H1.out, H2.out⟩
  · have e1 : monthP (i, k, x) = (0, false) := if_neg hk
    rw [e1]
    have hg : (k == 1) = false := by rw [beq_eq_false_iff_ne]; exact hk
    generalize nx s (i, k, x) = q1 at *
    clear e1 hx
    go_enter Tryd.func55, Tryd.ntmps55
    go_wp2_with fail
    refine (HNX.out _ (by exact HC.out)).mono ?_
    rintro e w4 ⟨rfl, h1, h2⟩
    have H1 := Lib.hid h1
    have H2 := Lib.hid h2
    clear h1 h2 c0 c1 c2 c3 z1 z2 z3 HC
    go_wp2
    go_ret2
    exact ⟨rfl, H1.out, H2.out⟩
end Go.Proofs.YtjlchnmpebdggaaDoor.Mo
end
section
namespace Go.Proofs.YtjlchnmpebdggaaDoor.Mo
open Go.RowKit Go.Proofs.YtjlchnmpebdggaaDoorW.PrintWords Go.Maps Go.WideMaps
def zoneL (l : List UInt8) : Int :=
  if l = [80, 68, 84] then (-420) else if l = [80, 83, 84] then (-480) else if l = [77, 68, 84] then (-360) else if l = [77, 83, 84] then (-420) else if l = [67, 68, 84] then (-300) else if l = [67, 83, 84] then (-360) else if l = [69, 68, 84] then (-240) else if l = [69, 83, 84] then (-300) else 0
theorem key9 : Keyed Tryd.prog 9 := string_keyed Tryd.underlying9
theorem zero3 (w : World) : (zeroValue 3).run Tryd.prog w = .ok (.int .i64 0) w := by kernel_rfl
theorem wpList_insert_own {H : Type} {P : Program} (w : World) {ops : Array Oper} {rest : List Oper} {o : Oper} {a : Act} {Q : Exit → Act → World → Prop}
    (hg : o.guard = none) (m x v : Operand) (t : TypeId) (hop : o.op = Op.insert t m x v)
    (k e : TypeId) (K : Keyed P k) (ht : P.underlying t = some (.map k e)) (R : Value → Option (DataW H × List MemPlace)) (b n : Nat) (D : DataW H)
    (hm : a.eval m = .map (some b)) (hown : w.ownsMap P k R b n D) (hn : n < maxLen) (key val : Value) (kl : Lit) (hx : a.eval x = key) (hv : a.eval v = val) (hkey : keyOf P k key = some kl)
    (d : DataW H) (ps : List MemPlace) (hval : R val = some (d, ps))
    (hK : ∀ w', w'.ownsMap P k R b (n + 1) (D.put kl d) → w.grownBy w' (some b) → wpList P ops Q rest (a.put o.dst undef) w') :
    wpList P ops Q (o :: rest) a w := by
  refine wpList_plain hg fun K' hK' => ?_
  obtain ⟨w', hrun, r1, r2⟩ := hown.update K ht hn hkey hval
  unfold Oper.wp
  simp [execOp, hop, hm, hx, hv, hrun, Result.andThen]
  exact hK' _ _ (hK w' r1 r2)
def zoneD : DataW Unit := (((((((((.map [] : DataW Unit).put (.string [69, 83, 84]) (.lit (.int .i64 (-300)))).put (.string [69, 68, 84]) (.lit (.int .i64 (-240)))).put (.string [67, 83, 84]) (.lit (.int .i64 (-360)))).put (.string [67, 68, 84]) (.lit (.int .i64 (-300)))).put (.string [77, 83, 84]) (.lit (.int .i64 (-420)))).put (.string [77, 68, 84]) (.lit (.int .i64 (-360)))).put (.string [80, 83, 84]) (.lit (.int .i64 (-480)))).put (.string [80, 68, 84]) (.lit (.int .i64 (-420))))
theorem zoneD_at (l : List UInt8) : zoneD.atKey (.string l) (.lit (.int .i64 0)) = .lit (.int .i64 (zoneL l)) := by
  unfold zoneD zoneL
  by_cases hPDT : l = [80, 68, 84]
  · rw [if_pos hPDT, hPDT]; rfl
  rw [if_neg hPDT, atKey_put_other (fun h => hPDT (Lit.string.inj h))]
  by_cases hPST : l = [80, 83, 84]
  · rw [if_pos hPST, hPST]; rfl
  rw [if_neg hPST, atKey_put_other (fun h => hPST (Lit.string.inj h))]
  by_cases hMDT : l = [77, 68, 84]
  · rw [if_pos hMDT, hMDT]; rfl
  rw [if_neg hMDT, atKey_put_other (fun h => hMDT (Lit.string.inj h))]
  by_cases hMST : l = [77, 83, 84]
  · rw [if_pos hMST, hMST]; rfl
  rw [if_neg hMST, atKey_put_other (fun h => hMST (Lit.string.inj h))]
  by_cases hCDT : l = [67, 68, 84]
  · rw [if_pos hCDT, hCDT]; rfl
  rw [if_neg hCDT, atKey_put_other (fun h => hCDT (Lit.string.inj h))]
  by_cases hCST : l = [67, 83, 84]
  · rw [if_pos hCST, hCST]; rfl
  rw [if_neg hCST, atKey_put_other (fun h => hCST (Lit.string.inj h))]
  by_cases hEDT : l = [69, 68, 84]
  · rw [if_pos hEDT, hEDT]; rfl
  rw [if_neg hEDT, atKey_put_other (fun h => hEDT (Lit.string.inj h))]
  by_cases hEST : l = [69, 83, 84]
  · rw [if_pos hEST, hEST]; rfl
  rw [if_neg hEST, atKey_put_other (fun h => hEST (Lit.string.inj h))]
  rfl
set_option maxHeartbeats 1000000 in
theorem named_calls (w : World) : Calls Tryd.prog 93 #[] w fun e w' => ∃ b, e = .returned (.map (some b)) ∧ w'.ownsMap Tryd.prog 9 (plainElem Tryd.prog 3) b 8 zoneD ∧ Below w.heap.size w w' := by
  have hmm := @run_makeMap Tryd.prog
  have B0 : Below w.heap.size w (w.alloc (.map #[] 0)) := below_alloc (Below.refl _ w) _
  go_enter Tryd.func93, Tryd.ntmps93
  go_wp2_with (first | (refine wpList_insert_own (H := Unit) _ rfl (.tmp 1) (.const (.string ⟨#[69, 83, 84]⟩)) (.const (.int .i64 (-300))) 90 rfl 9 3 key9 Tryd.underlying90 (plainElem Tryd.prog 3) w.heap.size 0 _ rfl (World.ownsMap_made _ _ _ _) (by decide) _ _ _ rfl rfl (keyOf_string_mk Tryd.underlying9 (by decide)) (.lit (.int .i64 (-300))) [] (plainElem_int Tryd.underlying3 (by decide)) ?_; intro w1 h1 g1; have B1 : Below w.heap.size w w1 := B0.grown g1 B0.size (fun k hk => by cases hk; exact Nat.le_refl _); clear B0 g1)| (refine wpList_insert_own (H := Unit) _ rfl (.tmp 1) (.const (.string ⟨#[69, 68, 84]⟩)) (.const (.int .i64 (-240))) 90 rfl 9 3 key9 Tryd.underlying90 (plainElem Tryd.prog 3) w.heap.size 1 _ rfl h1 (by decide) _ _ _ rfl rfl (keyOf_string_mk Tryd.underlying9 (by decide)) (.lit (.int .i64 (-240))) [] (plainElem_int Tryd.underlying3 (by decide)) ?_; intro w2 h2 g2; have B2 : Below w.heap.size w w2 := B1.grown g2 B1.size (fun k hk => by cases hk; exact Nat.le_refl _); clear B1 g2)| (refine wpList_insert_own (H := Unit) _ rfl (.tmp 1) (.const (.string ⟨#[67, 83, 84]⟩)) (.const (.int .i64 (-360))) 90 rfl 9 3 key9 Tryd.underlying90 (plainElem Tryd.prog 3) w.heap.size 2 _ rfl h2 (by decide) _ _ _ rfl rfl (keyOf_string_mk Tryd.underlying9 (by decide)) (.lit (.int .i64 (-360))) [] (plainElem_int Tryd.underlying3 (by decide)) ?_; intro w3 h3 g3; have B3 : Below w.heap.size w w3 := B2.grown g3 B2.size (fun k hk => by cases hk; exact Nat.le_refl _); clear B2 g3)| (refine wpList_insert_own (H := Unit) _ rfl (.tmp 1) (.const (.string ⟨#[67, 68, 84]⟩)) (.const (.int .i64 (-300))) 90 rfl 9 3 key9 Tryd.underlying90 (plainElem Tryd.prog 3) w.heap.size 3 _ rfl h3 (by decide) _ _ _ rfl rfl (keyOf_string_mk Tryd.underlying9 (by decide)) (.lit (.int .i64 (-300))) [] (plainElem_int Tryd.underlying3 (by decide)) ?_; intro w4 h4 g4; have B4 : Below w.heap.size w w4 := B3.grown g4 B3.size (fun k hk => by cases hk; exact Nat.le_refl _); clear B3 g4)| (refine wpList_insert_own (H := Unit) _ rfl (.tmp 1) (.const (.string ⟨#[77, 83, 84]⟩)) (.const (.int .i64 (-420))) 90 rfl 9 3 key9 Tryd.underlying90 (plainElem Tryd.prog 3) w.heap.size 4 _ rfl h4 (by decide) _ _ _ rfl rfl (keyOf_string_mk Tryd.underlying9 (by decide)) (.lit (.int .i64 (-420))) [] (plainElem_int Tryd.underlying3 (by decide)) ?_; intro w5 h5 g5; have B5 : Below w.heap.size w w5 := B4.grown g5 B4.size (fun k hk => by cases hk; exact Nat.le_refl _); clear B4 g5)| (refine wpList_insert_own (H := Unit) _ rfl (.tmp 1) (.const (.string ⟨#[77, 68, 84]⟩)) (.const (.int .i64 (-360))) 90 rfl 9 3 key9 Tryd.underlying90 (plainElem Tryd.prog 3) w.heap.size 5 _ rfl h5 (by decide) _ _ _ rfl rfl (keyOf_string_mk Tryd.underlying9 (by decide)) (.lit (.int .i64 (-360))) [] (plainElem_int Tryd.underlying3 (by decide)) ?_; intro w6 h6 g6; have B6 : Below w.heap.size w w6 := B5.grown g6 B5.size (fun k hk => by cases hk; exact Nat.le_refl _); clear B5 g6)| (refine wpList_insert_own (H := Unit) _ rfl (.tmp 1) (.const (.string ⟨#[80, 83, 84]⟩)) (.const (.int .i64 (-480))) 90 rfl 9 3 key9 Tryd.underlying90 (plainElem Tryd.prog 3) w.heap.size 6 _ rfl h6 (by decide) _ _ _ rfl rfl (keyOf_string_mk Tryd.underlying9 (by decide)) (.lit (.int .i64 (-480))) [] (plainElem_int Tryd.underlying3 (by decide)) ?_; intro w7 h7 g7; have B7 : Below w.heap.size w w7 := B6.grown g7 B6.size (fun k hk => by cases hk; exact Nat.le_refl _); clear B6 g7)| (refine wpList_insert_own (H := Unit) _ rfl (.tmp 1) (.const (.string ⟨#[80, 68, 84]⟩)) (.const (.int .i64 (-420))) 90 rfl 9 3 key9 Tryd.underlying90 (plainElem Tryd.prog 3) w.heap.size 7 _ rfl h7 (by decide) _ _ _ rfl rfl (keyOf_string_mk Tryd.underlying9 (by decide)) (.lit (.int .i64 (-420))) [] (plainElem_int Tryd.underlying3 (by decide)) ?_; intro w8 h8 g8; have B8 : Below w.heap.size w w8 := B7.grown g8 B7.size (fun k hk => by cases hk; exact Nat.le_refl _); clear B7 g8))
  go_ret
  exact ⟨_, rfl, h8, B8⟩
theorem named_look {w : World} {b : Nat} (h : w.ownsMap Tryd.prog 9 (plainElem Tryd.prog 3) b 8 zoneD) (x : ByteArray) (hx : x.size ≤ 9223372036854775807) :
    (Instr.lookup 90 (.map (some b)) (.string x) false).run Tryd.prog w = .ok (.int .i64 (zoneL x.data.toList)) w := by
  obtain ⟨c, h1, h2, _⟩ := h.lookup_int key9 Tryd.underlying90 Tryd.underlying3 (zero3 w) (keyOf_string_mk (s := x) Tryd.underlying9 hx)
  rw [zoneD_at] at h2
  have h3 : zoneL x.data.toList = c := by simpa using h2
  rw [h1, h3]
end Go.Proofs.YtjlchnmpebdggaaDoor.Mo
end
section
namespace Go.Proofs.YtjlchnmpebdggaaDoor.Mo
open Go.RowKit Go.Proofs.YtjlchnmpebdggaaDoorW.PrintWords
def zoneCP (q : St) : Int × Bool := if q.2.1 = 3 then zoneT q.2.2 else if q.2.1 = 1 then (zoneL (upperP q.2.2).data.toList, true) else (0, true)
def zoneCS (s : ByteArray) (q : St) : St := if q.2.1 = 3 ∨ q.2.1 = 1 then nx s q else q
set_option maxHeartbeats 1000000 in
theorem zoneC_calls (c t : Nat) (s : ByteArray) (q : St) (w : World) (hs : s.size ≤ 140737488351232) (hi : q.1 ≤ s.size) (hx : q.2.2.size ≤ 140737488351232) (hc : CurS c t s q w) (hcl : c < w.heap.size) :
    Calls Tryd.prog 59 #[.pointer (some ⟨c, 0, none⟩)] w fun e w' => e = .returned (.tuple #[.int .i64 (zoneCP q).1, .bool (zoneCP q).2]) ∧ CurS c t s (zoneCS s q) w' ∧ Turned c w w' := by
  obtain ⟨i, k, x⟩ := q
  obtain ⟨c0, c1, c2, c3, z1, z2, z3⟩ := cur4 hc
  have HC := Lib.hid hc
  clear hc
  have HNX := Lib.hid (fun w h => nx_calls c t s (i, k, x) w hs hi h)
  by_cases hk : k = 3
  · have e1 : zoneCP (i, k, x) = zoneT x := if_pos hk
    have e2 : zoneCS s (i, k, x) = nx s (i, k, x) := if_pos (.inl hk)
    rw [e1, e2]
    have hg : (k == 3) = true := by rw [beq_iff_eq]; exact hk
    have hz := zone_f 10 (by omega) x
    obtain ⟨Z1, Z2, hZ⟩ : ∃ Z1 Z2, zoneT x = (Z1, Z2) := ⟨_, _, rfl⟩
    rw [hZ] at hz ⊢
    generalize nx s (i, k, x) = q1 at *
    dsimp only
    have HZ := Lib.hid hz
    clear e1 e2 hk hx hz hZ
    go_enter Tryd.func59, Tryd.ntmps59
    go_wp2_with (go_at_call 71; refine (moment_zone.calls 10 x Z1 Z2 _ HZ.out).mono ?_; rintro e w1 ⟨rfl, ⟨nd, rfl⟩⟩)
    refine (HNX.out _ (by exact HC.out)).mono ?_
    rintro e w4 ⟨rfl, h1, h2⟩
    have H1 := Lib.hid h1
    have H2 := Lib.hid ((Turned.refl c w).drewN nd |>.trans h2)
    clear h1 h2 c0 c1 c2 c3 z1 z2 z3 HC
    go_wp2
    go_ret2
    exact ⟨rfl, H1.out, H2.out⟩
  · have hg3 : (k == 3) = false := by rw [beq_eq_false_iff_ne]; exact hk
    by_cases hk1 : k = 1
    · have e1 : zoneCP (i, k, x) = (zoneL (upperP x).data.toList, true) := by unfold zoneCP; rw [if_neg hk, if_pos hk1]
      have e2 : zoneCS s (i, k, x) = nx s (i, k, x) := if_pos (.inr hk1)
      rw [e1, e2]
      have hg : (k == 1) = true := by rw [beq_iff_eq]; exact hk1
      generalize nx s (i, k, x) = q1 at *
      dsimp only
      have hx' : x.size ≤ 140737488351232 := hx
      have hus := upperP_size x
      clear e1 e2 hk hk1 hx
      go_enter Tryd.func59, Tryd.ntmps59
      go_wp2_with fail
      go_region_with ((first | (go_at_call 93; refine (named_calls _).mono ?_; rintro e w1 ⟨b, rfl, hm, hb1⟩; have HM := Lib.hid hm; have HB1 := Lib.hid hb1; have d3 := pw_cell_below HB1.out (a := ⟨c, 3, none⟩) (v := .string x) (by first | assumption | go_simp); clear hm hb1) | (go_at_call 94; refine (upper_calls x _ hx').mono ?_; rintro e w2 ⟨rfl, hb2⟩; have HB2 := Lib.hid hb2; clear hb2; have hlk := named_look (HM.out.kept (grown_of_below HB2.out none) (by simp)) (upperP x) (by rw [hus]; omega))))
      all_goals
        go_wp2_with fail
        have hT : Turned c w w2 := by repeat (first | (with_reducible exact Turned.refl c w) | (with_reducible refine Turned.made ?_ HB2.out) | (with_reducible refine Turned.made ?_ HB1.out) | (with_reducible refine Turned.drew ?_) | (with_reducible refine Turned.drewN ?_ _))
        have hC : CurS c t s (i, k, x) w2 := (HB2.out.block c (Nat.lt_of_lt_of_le (by exact hcl) HB1.out.size)).trans ((HB1.out.block c (by exact hcl)).trans HC.out)
        have HT := Lib.hid hT
        clear hlk hT d3 c0 c1 c2 c3 z1 z2 z3
        refine (HNX.out _ hC).mono ?_
        rintro e w4 ⟨rfl, h1, h2⟩
        have H1 := Lib.hid h1
        have H2 := Lib.hid (HT.out.trans h2)
        clear h1 h2 hC
        go_wp2
        go_ret2
        exact ⟨rfl, H1.out, H2.out⟩
    · have e1 : zoneCP (i, k, x) = (0, true) := by unfold zoneCP; rw [if_neg hk, if_neg hk1]
      have e2 : zoneCS s (i, k, x) = (i, k, x) := if_neg (fun h => h.elim hk hk1)
      rw [e1, e2]
      have hg : (k == 1) = false := by rw [beq_eq_false_iff_ne]; exact hk1
      clear e1 e2 hx
      go_enter Tryd.func59, Tryd.ntmps59
      go_wp2
      go_ret2
      exact ⟨rfl, HC.out, Turned.refl _ _⟩
end Go.Proofs.YtjlchnmpebdggaaDoor.Mo
end
section
namespace Go.Proofs.YtjlchnmpebdggaaDoor.Mo
open Go.RowKit Go.Proofs.YtjlchnmpebdggaaDoorW.PrintWords
def OkQ (s : ByteArray) (q : St) : Prop := q.1 ≤ s.size ∧ q.2.2.size ≤ s.size
theorem okq_nx {s : ByteArray} {q : St} (h : OkQ s q) : OkQ s (nx s q) := ⟨nx_le s q h.1, nx_text s q⟩
theorem okq_week {s : ByteArray} {q : St} (h : OkQ s q) : OkQ s (weekS s q) := by
  unfold weekS; split
  · exact okq_nx (okq_nx h)
  · exact h
theorem okq_second {s : ByteArray} {q : St} (h : OkQ s q) : OkQ s (secondS s q) := by
  unfold secondS; split
  · exact okq_nx (okq_nx h)
  · exact h
def hq1 (s : ByteArray) : St := nx s (0, 0, ⟨#[]⟩)
def hq2 (s : ByteArray) : St := weekS s (hq1 s)
def hq3 (s : ByteArray) : St := nx s (hq2 s)
def hq4 (s : ByteArray) : St := nx s (hq3 s)
def hq5 (s : ByteArray) : St := nx s (hq4 s)
def hq6 (s : ByteArray) : St := nx s (hq5 s)
def hq7 (s : ByteArray) : St := nx s (hq6 s)
def hq8 (s : ByteArray) : St := nx s (hq7 s)
def hq9 (s : ByteArray) : St := secondS s (hq8 s)
def hq10 (s : ByteArray) : St := zoneCS s (hq9 s)
def headB (s : ByteArray) : List Bool := [weekP s (hq1 s), (shortP 99 (hq2 s)).2, (monthP (hq3 s)).2, (yearP (hq4 s)).2, (shortP 23 (hq5 s)).2, (hq6 s).2.1 == 5, (shortP 59 (hq7 s)).2, (secondP s (hq8 s)).2]
def headOk (s : ByteArray) : Bool := ((zoneCP (hq9 s)).2 && (headB s).all id) && (hq10 s).2.1 == 0
def moment_ReadHeader.f (s : ByteArray) : Option (Int × Int × Int × Int × Int × Int × Int × Int) :=
  if s.size ≤ 140737488351232 then moment_read.f (yearP (hq4 s)).1 (monthP (hq3 s)).1 (shortP 99 (hq2 s)).1 (shortP 23 (hq5 s)).1 (shortP 59 (hq7 s)).1 (secondP s (hq8 s)).1 (zoneCP (hq9 s)).1 (headOk s) else none
def zeros7 : Array Value := #[.int .i64 0, .int .i64 0, .int .i64 0, .int .i64 0, .int .i64 0, .int .i64 0, .int .i64 0]
theorem curS_lt {c t : Nat} {s : ByteArray} {q : St} {w : World} (h : CurS c t s q w) : c < w.heap.size := by unfold CurS Cur at h; exact blk_lt h
structure RH (w : World) (R C M K : Nat) (s : ByteArray) (q : St) (mv kv : Array Value) (W : World) : Prop where
  cur : CurS C 61 s q W
  res : W.heap[R]? = some (.cells zeros7 23 (0, 0))
  mom : W.heap[M]? = some (.cells mv 23 (0, 0))
  oks : W.heap[K]? = some (.cells kv 62 (0, 0))
  below : Below w.heap.size w W
  rc : R < C
  cm : C < M
  lt3 : M < K
  wr : w.heap.size ≤ R
theorem RH.turn {w W W' : World} {R C M K : Nat} {s : ByteArray} {q q' : St} {mv kv : Array Value} (h : RH w R C M K s q mv kv W) (hc : CurS C 61 s q' W') (hT : Turned C W W') : RH w R C M K s q' mv kv W' :=
  ⟨hc, (hT.other R (blk_lt h.res) (Nat.ne_of_lt h.rc)).trans h.res, (hT.other M (blk_lt h.mom) (Nat.ne_of_gt h.cm)).trans h.mom, (hT.other K (blk_lt h.oks) (Nat.ne_of_gt (Nat.lt_trans h.cm h.lt3))).trans h.oks,
    hT.below _ _ h.below (Nat.le_of_lt (Nat.lt_of_le_of_lt h.wr h.rc)) h.below.size, h.rc, h.cm, h.lt3, h.wr⟩
theorem RH.mset {w W : World} {R C M K : Nat} {s : ByteArray} {q : St} {mv kv : Array Value} (h : RH w R C M K s q mv kv W) (j : Nat) (v : Value) (mv' : Array Value) (e : mv.setIfInBounds j v = mv') : RH w R C M K s q mv' kv (W.setCell ⟨M, j, none⟩ v) :=
  have h1 := h.rc
  have h2 := h.cm
  have h3 := h.lt3
  have h4 := h.wr
  ⟨(heap_setCell_other _ _ _ _ (Nat.ne_of_lt h2)).trans h.cur, (heap_setCell_other _ _ _ _ (Nat.ne_of_lt (Nat.lt_trans h1 h2))).trans h.res, blk_put h.mom j v e, (heap_setCell_other _ _ _ _ (Nat.ne_of_gt h3)).trans h.oks, h.below.setCell (p := ⟨M, j, none⟩) (by show w.heap.size ≤ M; omega) v, h1, h2, h3, h4⟩
theorem RH.kset {w W : World} {R C M K : Nat} {s : ByteArray} {q : St} {mv kv : Array Value} (h : RH w R C M K s q mv kv W) (j : Nat) (v : Value) (kv' : Array Value) (e : kv.setIfInBounds j v = kv') : RH w R C M K s q mv kv' (W.setCell ⟨K, j, none⟩ v) :=
  have h1 := h.rc
  have h2 := h.cm
  have h3 := h.lt3
  have h4 := h.wr
  ⟨(heap_setCell_other _ _ _ _ (Nat.ne_of_lt (Nat.lt_trans h2 h3))).trans h.cur, (heap_setCell_other _ _ _ _ (Nat.ne_of_lt (Nat.lt_trans h1 (Nat.lt_trans h2 h3)))).trans h.res, (heap_setCell_other _ _ _ _ (Nat.ne_of_lt h3)).trans h.mom, blk_put h.oks j v e, h.below.setCell (p := ⟨K, j, none⟩) (by show w.heap.size ≤ K; omega) v, h1, h2, h3, h4⟩
theorem RH.mcell {w W : World} {R C M K : Nat} {s : ByteArray} {q : St} {mv kv : Array Value} (h : RH w R C M K s q mv kv W) (j : Nat) : W.cell? ⟨M, j, none⟩ = mv[j]? ∧ W.frozen? ⟨M, j, none⟩ = false := ⟨blk_cell h.mom j, blk_frozen h.mom j⟩
theorem RH.kcell {w W : World} {R C M K : Nat} {s : ByteArray} {q : St} {mv kv : Array Value} (h : RH w R C M K s q mv kv W) (j : Nat) : W.cell? ⟨K, j, none⟩ = kv[j]? ∧ W.frozen? ⟨K, j, none⟩ = false := ⟨blk_cell h.oks j, blk_frozen h.oks j⟩
theorem bools_index (w : World) (b0 b1 b2 b3 b4 b5 b6 b7 : Bool) (n : Nat) (h : n < 8) : (Instr.index 62 (.agg #[.bool b0, .bool b1, .bool b2, .bool b3, .bool b4, .bool b5, .bool b6, .bool b7]) (.int .i64 (n : Int))).run Tryd.prog w = .ok (.bool ([b0, b1, b2, b3, b4, b5, b6, b7].getD n false)) w := by
  have : n = 0 ∨ n = 1 ∨ n = 2 ∨ n = 3 ∨ n = 4 ∨ n = 5 ∨ n = 6 ∨ n = 7 := by omega
  rcases this with rfl | rfl | rfl | rfl | rfl | rfl | rfl | rfl <;> (show _ = _; kernel_rfl)
set_option maxHeartbeats 4000000 in
set_option maxRecDepth 100000 in
theorem readHeader_calls (s : ByteArray) (r1 r2 r3 r4 r5 r6 r7 r8 : Int) (w : World) (hs : s.size ≤ 140737488351232)
    (h : moment_read.f (yearP (hq4 s)).1 (monthP (hq3 s)).1 (shortP 99 (hq2 s)).1 (shortP 23 (hq5 s)).1 (shortP 59 (hq7 s)).1 (secondP s (hq8 s)).1 (zoneCP (hq9 s)).1 (headOk s) = some (r1, r2, r3, r4, r5, r6, r7, r8)) (hL : Laid w) :
    Calls Tryd.prog 27 #[.string s] w fun e w' => e = .returned (.tuple #[.agg #[.int .i64 r1, .int .i64 r2, .int .i64 r3, .int .i64 r4, .int .i64 r5, .int .i64 r6, .int .i64 r7], .int .i64 r8]) ∧ Below w.heap.size w w' := by
  have O1 := Lib.hid (show OkQ s (hq1 s) from okq_nx ⟨Nat.zero_le _, Nat.zero_le _⟩)
  have O2 := Lib.hid (show OkQ s (hq2 s) from okq_week O1.out)
  have O3 := Lib.hid (show OkQ s (hq3 s) from okq_nx O2.out)
  have O4 := Lib.hid (show OkQ s (hq4 s) from okq_nx O3.out)
  have O5 := Lib.hid (show OkQ s (hq5 s) from okq_nx O4.out)
  have O6 := Lib.hid (show OkQ s (hq6 s) from okq_nx O5.out)
  have O7 := Lib.hid (show OkQ s (hq7 s) from okq_nx O6.out)
  have O8 := Lib.hid (show OkQ s (hq8 s) from okq_nx O7.out)
  have O9 := Lib.hid (show OkQ s (hq9 s) from okq_second O8.out)
  have HR := Lib.hid h
  have HL := Lib.hid hL
  clear h hL
  go_enter Tryd.func27, Tryd.ntmps27
  go_wp2_with fail
  have hcur : CurS (w.heap.size + 1) 61 s (0, 0, ⟨#[]⟩) ((w.alloc (.cells zeros7 23)).alloc (.cells #[.string s, .int .i64 0, .int .i64 0, .string ⟨#[]⟩] 61)) := by
    have := heap_alloc_new (w.alloc (.cells zeros7 23)) (.cells #[.string s, .int .i64 0, .int .i64 0, .string ⟨#[]⟩] 61)
    rw [show (w.alloc (.cells zeros7 23)).heap.size = w.heap.size + 1 from by simp] at this
    exact this
  refine (nx_calls (w.heap.size + 1) 61 s (0, 0, ⟨#[]⟩) _ hs (Nat.zero_le _) hcur).mono ?_
  rintro e w1 ⟨rfl, hc1, ht1⟩
  have hres1 : w1.heap[w.heap.size]? = some (.cells zeros7 23 (0, 0)) := by
    rw [ht1.other w.heap.size (by simp; omega) (by omega), Below.heap_alloc _ _ _ (by simp)]; exact heap_alloc_new _ _
  have hb1 : Below w.heap.size w w1 := ht1.below _ _ (below_alloc (below_alloc (Below.refl _ w) _) _) (by omega) (by simp; omega)
  have hlt1 := blk_lt hc1
  have HR1 := Lib.hid hres1
  have HB1 := Lib.hid hb1
  have HC1 := Lib.hid hc1
  clear hcur ht1 hres1 hb1 hc1
  go_wp2_with fail
  have H : Hid (RH w w.heap.size (w.heap.size + 1) w1.heap.size (w1.heap.size + 1) s (hq1 s) #[.int .i64 0, .int .i64 0, .int .i64 0, .int .i64 0, .int .i64 0, .int .i64 0, .int .i64 0] #[.bool false, .bool false, .bool false, .bool false, .bool false, .bool false, .bool false, .bool false] ((w1.alloc (.cells #[.int .i64 0, .int .i64 0, .int .i64 0, .int .i64 0, .int .i64 0, .int .i64 0, .int .i64 0] 23)).alloc (.cells #[.bool false, .bool false, .bool false, .bool false, .bool false, .bool false, .bool false, .bool false] 62))) := Lib.hid (by
    refine ⟨?_, ?_, ?_, ?_, below_alloc (below_alloc HB1.out _) _, by omega, by omega, by omega, Nat.le_refl _⟩
    · exact (Below.heap_alloc _ _ _ (by simp; omega)).trans ((Below.heap_alloc _ _ _ hlt1).trans HC1.out)
    · exact (Below.heap_alloc _ _ _ (by simp; omega)).trans ((Below.heap_alloc _ _ _ (by omega)).trans HR1.out)
    · exact (Below.heap_alloc _ _ _ (by simp)).trans (heap_alloc_new _ _)
    · have := heap_alloc_new (w1.alloc (.cells #[.int .i64 0, .int .i64 0, .int .i64 0, .int .i64 0, .int .i64 0, .int .i64 0, .int .i64 0] 23)) (.cells #[.bool false, .bool false, .bool false, .bool false, .bool false, .bool false, .bool false, .bool false] 62)
      rw [show (w1.alloc (.cells #[.int .i64 0, .int .i64 0, .int .i64 0, .int .i64 0, .int .i64 0, .int .i64 0, .int .i64 0] 23)).heap.size = w1.heap.size + 1 from by simp] at this
      exact this)
  clear HR1 HB1 HC1
  generalize (w1.alloc (Obj.cells #[.int .i64 0, .int .i64 0, .int .i64 0, .int .i64 0, .int .i64 0, .int .i64 0, .int .i64 0] 23)).alloc (Obj.cells #[.bool false, .bool false, .bool false, .bool false, .bool false, .bool false, .bool false, .bool false] 62) = W at *
  generalize w.heap.size + 1 = C at *
  generalize w1.heap.size = M at *
  generalize M + 1 = K at *
  refine (week_calls C 61 s (hq1 s) _ hs O1.out.1 (Nat.le_trans O1.out.2 hs) H.out.cur (curS_lt H.out.cur)).mono ?_
  rintro e w2 ⟨rfl, hc, ht⟩
  have H2 := Lib.hid (RH.turn (q' := hq2 s) H.out hc ht)
  clear hc ht H
  obtain ⟨ck, zk⟩ := H2.out.kcell 0
  replace ck : w2.cell? ⟨K, 0, none⟩ = some (.bool false) := ck
  obtain ⟨B0, eB0⟩ : ∃ x, weekP s (hq1 s) = x := ⟨_, rfl⟩
  rw [eB0]
  have EB0 := Lib.hid eB0
  clear eB0
  go_wp2_with fail
  have H := Lib.hid (H2.out.kset 0 (.bool B0) #[.bool B0, .bool false, .bool false, .bool false, .bool false, .bool false, .bool false, .bool false] rfl)
  clear H2 ck zk
  generalize w2.setCell ⟨K, 0, none⟩ (.bool B0) = W at *
  refine (short_calls C 61 s (hq2 s) 99 _ hs O2.out.1 H.out.cur).mono ?_
  rintro e w3 ⟨rfl, hc, ht⟩
  have H3 := Lib.hid (RH.turn (q' := hq3 s) H.out hc ht)
  clear hc ht H
  obtain ⟨cm, zm⟩ := H3.out.mcell 2
  obtain ⟨ck, zk⟩ := H3.out.kcell 1
  replace cm : w3.cell? ⟨M, 2, none⟩ = some (.int .i64 0) := cm
  replace ck : w3.cell? ⟨K, 1, none⟩ = some (.bool false) := ck
  obtain ⟨D, eD⟩ : ∃ x, (shortP 99 (hq2 s)).1 = x := ⟨_, rfl⟩
  obtain ⟨B1, eB1⟩ : ∃ x, (shortP 99 (hq2 s)).2 = x := ⟨_, rfl⟩
  rw [eD, eB1]
  have ED := Lib.hid eD
  have EB1 := Lib.hid eB1
  clear eD eB1
  go_wp2_with fail
  have H := Lib.hid ((H3.out.mset 2 (.int .i64 D) #[.int .i64 0, .int .i64 0, .int .i64 D, .int .i64 0, .int .i64 0, .int .i64 0, .int .i64 0] rfl).kset 1 (.bool B1) #[.bool B0, .bool B1, .bool false, .bool false, .bool false, .bool false, .bool false, .bool false] rfl)
  clear H3 cm zm ck zk
  generalize (w3.setCell ⟨M, 2, none⟩ (.int .i64 D)).setCell ⟨K, 1, none⟩ (.bool B1) = W at *
  refine (month_calls C 61 s (hq3 s) _ hs O3.out.1 (Nat.le_trans O3.out.2 hs) H.out.cur (curS_lt H.out.cur)).mono ?_
  rintro e w4 ⟨rfl, hc, ht⟩
  have H4 := Lib.hid (RH.turn (q' := hq4 s) H.out hc ht)
  clear hc ht H
  obtain ⟨cm, zm⟩ := H4.out.mcell 1
  obtain ⟨ck, zk⟩ := H4.out.kcell 2
  replace cm : w4.cell? ⟨M, 1, none⟩ = some (.int .i64 0) := cm
  replace ck : w4.cell? ⟨K, 2, none⟩ = some (.bool false) := ck
  obtain ⟨Mo, eMo⟩ : ∃ x, (monthP (hq3 s)).1 = x := ⟨_, rfl⟩
  obtain ⟨B2, eB2⟩ : ∃ x, (monthP (hq3 s)).2 = x := ⟨_, rfl⟩
  rw [eMo, eB2]
  have EMo := Lib.hid eMo
  have EB2 := Lib.hid eB2
  clear eMo eB2
  go_wp2_with fail
  have H := Lib.hid ((H4.out.mset 1 (.int .i64 Mo) #[.int .i64 0, .int .i64 Mo, .int .i64 D, .int .i64 0, .int .i64 0, .int .i64 0, .int .i64 0] rfl).kset 2 (.bool B2) #[.bool B0, .bool B1, .bool B2, .bool false, .bool false, .bool false, .bool false, .bool false] rfl)
  clear H4 cm zm ck zk
  generalize (w4.setCell ⟨M, 1, none⟩ (.int .i64 Mo)).setCell ⟨K, 2, none⟩ (.bool B2) = W at *
  refine (year_calls C 61 s (hq4 s) _ hs O4.out.1 H.out.cur).mono ?_
  rintro e w5 ⟨rfl, hc, ht⟩
  have H5 := Lib.hid (RH.turn (q' := hq5 s) H.out hc ht)
  clear hc ht H
  obtain ⟨cm, zm⟩ := H5.out.mcell 0
  obtain ⟨ck, zk⟩ := H5.out.kcell 3
  replace cm : w5.cell? ⟨M, 0, none⟩ = some (.int .i64 0) := cm
  replace ck : w5.cell? ⟨K, 3, none⟩ = some (.bool false) := ck
  obtain ⟨Y, eY⟩ : ∃ x, (yearP (hq4 s)).1 = x := ⟨_, rfl⟩
  obtain ⟨B3, eB3⟩ : ∃ x, (yearP (hq4 s)).2 = x := ⟨_, rfl⟩
  rw [eY, eB3]
  have EY := Lib.hid eY
  have EB3 := Lib.hid eB3
  clear eY eB3
  go_wp2_with fail
  have H := Lib.hid ((H5.out.mset 0 (.int .i64 Y) #[.int .i64 Y, .int .i64 Mo, .int .i64 D, .int .i64 0, .int .i64 0, .int .i64 0, .int .i64 0] rfl).kset 3 (.bool B3) #[.bool B0, .bool B1, .bool B2, .bool B3, .bool false, .bool false, .bool false, .bool false] rfl)
  clear H5 cm zm ck zk
  generalize (w5.setCell ⟨M, 0, none⟩ (.int .i64 Y)).setCell ⟨K, 3, none⟩ (.bool B3) = W at *
  refine (short_calls C 61 s (hq5 s) 23 _ hs O5.out.1 H.out.cur).mono ?_
  rintro e w6 ⟨rfl, hc, ht⟩
  have H6 := Lib.hid (RH.turn (q' := hq6 s) H.out hc ht)
  clear hc ht H
  obtain ⟨cm, zm⟩ := H6.out.mcell 3
  obtain ⟨ck, zk⟩ := H6.out.kcell 4
  replace cm : w6.cell? ⟨M, 3, none⟩ = some (.int .i64 0) := cm
  replace ck : w6.cell? ⟨K, 4, none⟩ = some (.bool false) := ck
  obtain ⟨Hh, eHh⟩ : ∃ x, (shortP 23 (hq5 s)).1 = x := ⟨_, rfl⟩
  obtain ⟨B4, eB4⟩ : ∃ x, (shortP 23 (hq5 s)).2 = x := ⟨_, rfl⟩
  rw [eHh, eB4]
  have EHh := Lib.hid eHh
  have EB4 := Lib.hid eB4
  clear eHh eB4
  go_wp2_with fail
  have H := Lib.hid ((H6.out.mset 3 (.int .i64 Hh) #[.int .i64 Y, .int .i64 Mo, .int .i64 D, .int .i64 Hh, .int .i64 0, .int .i64 0, .int .i64 0] rfl).kset 4 (.bool B4) #[.bool B0, .bool B1, .bool B2, .bool B3, .bool B4, .bool false, .bool false, .bool false] rfl)
  clear H6 cm zm ck zk
  generalize (w6.setCell ⟨M, 3, none⟩ (.int .i64 Hh)).setCell ⟨K, 4, none⟩ (.bool B4) = W at *
  refine (sign_calls C 61 s (hq6 s) 5 _ hs O6.out.1 H.out.cur).mono ?_
  rintro e w7 ⟨rfl, hc, ht⟩
  have H7 := Lib.hid (RH.turn (q' := hq7 s) H.out hc ht)
  clear hc ht H
  obtain ⟨ck, zk⟩ := H7.out.kcell 5
  replace ck : w7.cell? ⟨K, 5, none⟩ = some (.bool false) := ck
  obtain ⟨B5, eB5⟩ : ∃ x, ((hq6 s).2.1 == 5) = x := ⟨_, rfl⟩
  rw [eB5]
  have EB5 := Lib.hid eB5
  clear eB5
  go_wp2_with fail
  have H := Lib.hid (H7.out.kset 5 (.bool B5) #[.bool B0, .bool B1, .bool B2, .bool B3, .bool B4, .bool B5, .bool false, .bool false] rfl)
  clear H7 ck zk
  generalize w7.setCell ⟨K, 5, none⟩ (.bool B5) = W at *
  refine (short_calls C 61 s (hq7 s) 59 _ hs O7.out.1 H.out.cur).mono ?_
  rintro e w8 ⟨rfl, hc, ht⟩
  have H8 := Lib.hid (RH.turn (q' := hq8 s) H.out hc ht)
  clear hc ht H
  obtain ⟨cm, zm⟩ := H8.out.mcell 4
  obtain ⟨ck, zk⟩ := H8.out.kcell 6
  replace cm : w8.cell? ⟨M, 4, none⟩ = some (.int .i64 0) := cm
  replace ck : w8.cell? ⟨K, 6, none⟩ = some (.bool false) := ck
  obtain ⟨Mi, eMi⟩ : ∃ x, (shortP 59 (hq7 s)).1 = x := ⟨_, rfl⟩
  obtain ⟨B6, eB6⟩ : ∃ x, (shortP 59 (hq7 s)).2 = x := ⟨_, rfl⟩
  rw [eMi, eB6]
  have EMi := Lib.hid eMi
  have EB6 := Lib.hid eB6
  clear eMi eB6
  go_wp2_with fail
  have H := Lib.hid ((H8.out.mset 4 (.int .i64 Mi) #[.int .i64 Y, .int .i64 Mo, .int .i64 D, .int .i64 Hh, .int .i64 Mi, .int .i64 0, .int .i64 0] rfl).kset 6 (.bool B6) #[.bool B0, .bool B1, .bool B2, .bool B3, .bool B4, .bool B5, .bool B6, .bool false] rfl)
  clear H8 cm zm ck zk
  generalize (w8.setCell ⟨M, 4, none⟩ (.int .i64 Mi)).setCell ⟨K, 6, none⟩ (.bool B6) = W at *
  refine (second_calls C 61 s (hq8 s) _ hs O8.out.1 H.out.cur).mono ?_
  rintro e w9 ⟨rfl, hc, ht⟩
  have H9 := Lib.hid (RH.turn (q' := hq9 s) H.out hc ht)
  clear hc ht H
  obtain ⟨cm, zm⟩ := H9.out.mcell 5
  obtain ⟨ck, zk⟩ := H9.out.kcell 7
  replace cm : w9.cell? ⟨M, 5, none⟩ = some (.int .i64 0) := cm
  replace ck : w9.cell? ⟨K, 7, none⟩ = some (.bool false) := ck
  obtain ⟨Se, eSe⟩ : ∃ x, (secondP s (hq8 s)).1 = x := ⟨_, rfl⟩
  obtain ⟨B7, eB7⟩ : ∃ x, (secondP s (hq8 s)).2 = x := ⟨_, rfl⟩
  rw [eSe, eB7]
  have ESe := Lib.hid eSe
  have EB7 := Lib.hid eB7
  clear eSe eB7
  go_wp2_with fail
  have H := Lib.hid ((H9.out.mset 5 (.int .i64 Se) #[.int .i64 Y, .int .i64 Mo, .int .i64 D, .int .i64 Hh, .int .i64 Mi, .int .i64 Se, .int .i64 0] rfl).kset 7 (.bool B7) #[.bool B0, .bool B1, .bool B2, .bool B3, .bool B4, .bool B5, .bool B6, .bool B7] rfl)
  clear H9 cm zm ck zk
  generalize (w9.setCell ⟨M, 5, none⟩ (.int .i64 Se)).setCell ⟨K, 7, none⟩ (.bool B7) = W at *
  refine (zoneC_calls C 61 s (hq9 s) _ hs O9.out.1 (Nat.le_trans O9.out.2 hs) H.out.cur (curS_lt H.out.cur)).mono ?_
  rintro e w10 ⟨rfl, hc, ht⟩
  have H10 := Lib.hid (RH.turn (q' := hq10 s) H.out hc ht)
  clear hc ht H
  obtain ⟨cm, zm⟩ := H10.out.mcell 6
  replace cm : w10.cell? ⟨M, 6, none⟩ = some (.int .i64 0) := cm
  obtain ⟨Z, eZ⟩ : ∃ x, (zoneCP (hq9 s)).1 = x := ⟨_, rfl⟩
  obtain ⟨BZ, eBZ⟩ : ∃ x, (zoneCP (hq9 s)).2 = x := ⟨_, rfl⟩
  rw [eZ, eBZ]
  have EZ := Lib.hid eZ
  have EBZ := Lib.hid eBZ
  clear eZ eBZ
  go_upto_region 15 with fail
  have H := Lib.hid (H10.out.mset 6 (.int .i64 Z) #[.int .i64 Y, .int .i64 Mo, .int .i64 D, .int .i64 Hh, .int .i64 Mi, .int .i64 Se, .int .i64 Z] rfl)
  clear H10 cm zm
  generalize w10.setCell ⟨M, 6, none⟩ (.int .i64 Z) = W at *
  go_wp2_with (refine wpList_load_row rfl 62 (.tmp 6) rfl K rfl 62 #[.bool B0, .bool B1, .bool B2, .bool B3, .bool B4, .bool B5, .bool B6, .bool B7] (0, 0) _ H.out.oks Tryd.underlying62 rfl (by kernel_rfl) ?_)
  have hBLs : [B0, B1, B2, B3, B4, B5, B6, B7].length = 8 := rfl
  have HX := Lib.hid (fun (W' : World) (n : Nat) (hn : n < 8) => bools_index W' B0 B1 B2 B3 B4 B5 B6 B7 n hn)
  obtain ⟨BL, hBL⟩ : ∃ BL, BL = [B0, B1, B2, B3, B4, B5, B6, B7] := ⟨_, rfl⟩
  rw [← hBL] at HX hBLs
  have HBL := Lib.hid hBL
  clear hBL
  go_loopw [8, 72] (fun v8 v72 wr => ∃ n : Nat, n ≤ 8 ∧ v72 = .int .i64 n ∧ v8 = .bool (BZ && (BL.take n).all id) ∧ wr = W) (fun _ v72 _ => 8 - (intOf v72).toNat)
  case atStart => exact ⟨0, by omega, rfl, by simp, rfl⟩
  case round =>
    obtain ⟨n, hn, rfl, rfl, rfl⟩ := hrel
    by_cases hlt : n < 8
    · have hix := fun W' => HX.out W' n hlt
      have hsn : Hid ((BZ && (BL.take (n + 1)).all id) = ((BZ && (BL.take n).all id) && BL.getD n false)) := Lib.hid (by
        rw [List.take_succ_eq_append_getElem (by omega), List.all_append, List.getD_eq_getElem?_getD, List.getElem?_eq_getElem (by omega)]
        simp [Bool.and_assoc])
      generalize (BZ && (BL.take n).all id) = p at *
      generalize BL.getD n false = X at *
      clear EB0 EB1 EB2 EB3 EB4 EB5 EB6 EB7 EY EMo ED EHh EMi ESe EZ EBZ O1 O2 O3 O4 O5 O6 O7 O8 O9 HX H HBL HR HL
      cases p with
      | true =>
        go_wp2
        go_roundw
        case rel => exact ⟨n + 1, by omega, by go_num, by rw [hsn.out]; rfl, trivial⟩
        case measure => simp [intOf]; omega
      | false =>
        go_wp2
        go_roundw
        case rel => exact ⟨n + 1, by omega, by go_num, by rw [hsn.out]; rfl, trivial⟩
        case measure => simp [intOf]; omega
    · obtain rfl : n = 8 := by omega
      have hall : BL.take 8 = BL := List.take_of_length_le (by omega)
      have hk := HR.out
      have hhead : headOk s = ((BZ && BL.all id) && (hq10 s).2.1 == 0) := by
        unfold headOk headB
        rw [EBZ.out, EB0.out, EB1.out, EB2.out, EB3.out, EB4.out, EB5.out, EB6.out, EB7.out, ← HBL.out]
      rw [hhead, EY.out, EMo.out, ED.out, EHh.out, EMi.out, ESe.out, EZ.out] at hk
      rw [hall]
      have HK := Lib.hid hk
      clear hk hhead hall hBLs HX
      obtain ⟨⟨c0, c1, c2, c3, c4, c5, c6⟩, _⟩ := cells7 H.out.mom
      obtain ⟨_, _, d2, _, _, _, _⟩ := cur4 H.out.cur
      have hlaid := Lib.hid (laid_below HL.out H.out.below)
      have HBE := Lib.hid H.out.below
      have HRES := Lib.hid H.out.res
      have hRlt := Lib.hid (blk_lt H.out.res)
      generalize (BZ && BL.all id) = right at *
      generalize (hq10 s).2.1 = kd at *
      clear O1 O2 O3 O4 O5 O6 O7 O8 O9 HR HL EY EMo ED EHh EMi ESe EZ EBZ EB0 EB1 EB2 EB3 EB4 EB5 EB6 EB7 HBL H
      cases right with
      | true =>
        have hq : (true && kd == 0) = (kd == 0) := Bool.true_and _
        rw [hq] at HK
        clear hq
        go_wp2_with fail
        go_region_with (go_at_call 60; refine (moment_read.calls Y Mo D Hh Mi Se Z (kd == 0) r1 r2 r3 r4 r5 r6 r7 r8 _ HK.out (laid_below hlaid.out (by repeat (first | (with_reducible exact Below.refl _ _) | apply below_drew | apply pw_below_drewN)))).mono ?_; rintro e w12 ⟨rfl, hb⟩; obtain ⟨⟨x0, x1, x2, x3, x4, x5, x6⟩, fz⟩ := cells7 (show w12.heap[w.heap.size]? = some (.cells #[.int .i64 0, .int .i64 0, .int .i64 0, .int .i64 0, .int .i64 0, .int .i64 0, .int .i64 0] 23 (0, 0)) from (hb.block w.heap.size (by exact hRlt.out)).trans HRES.out); have y0 := fz 0; have y1 := fz 1; have y2 := fz 2; have y3 := fz 3; have y4 := fz 4; have y5 := fz 5; have y6 := fz 6; clear fz; have HB := Lib.hid hb; clear hb)
        all_goals go_wp2
        all_goals
          have hr12 := (show w12.heap[w.heap.size]? = some (.cells #[.int .i64 0, .int .i64 0, .int .i64 0, .int .i64 0, .int .i64 0, .int .i64 0, .int .i64 0] 23 (0, 0)) from (HB.out.block w.heap.size (by exact hRlt.out)).trans HRES.out)
          have hbe : Below w.heap.size w w12 := below_step (by repeat (first | (with_reducible exact HBE.out) | (with_reducible apply below_drew) | (with_reducible apply pw_below_drewN) | exact HBE.out)) HB.out
          exact bodyPost_ret (results_ct rfl _ _ w.heap.size 23 #[.int .i64 r1, .int .i64 r2, .int .i64 r3, .int .i64 r4, .int .i64 r5, .int .i64 r6, .int .i64 r7] (0, 0) _ rfl (set7 hr12 _ _ _ _ _ _ _).1 Tryd.underlying23 rfl (by kernel_rfl)) rfl ⟨rfl, (set7 hr12 _ _ _ _ _ _ _).2 _ _ hbe (Nat.le_refl _)⟩
      | false =>
        have hq : (false && kd == 0) = false := rfl
        rw [hq] at HK
        clear hq
        go_wp2_with fail
        first | (go_region_with (go_at_call 60; refine (moment_read.calls Y Mo D Hh Mi Se Z false r1 r2 r3 r4 r5 r6 r7 r8 _ HK.out (laid_below hlaid.out (by repeat (first | (with_reducible exact Below.refl _ _) | apply below_drew | apply pw_below_drewN)))).mono ?_; rintro e w12 ⟨rfl, hb⟩; obtain ⟨⟨x0, x1, x2, x3, x4, x5, x6⟩, fz⟩ := cells7 (show w12.heap[w.heap.size]? = some (.cells #[.int .i64 0, .int .i64 0, .int .i64 0, .int .i64 0, .int .i64 0, .int .i64 0, .int .i64 0] 23 (0, 0)) from (hb.block w.heap.size (by exact hRlt.out)).trans HRES.out); have y0 := fz 0; have y1 := fz 1; have y2 := fz 2; have y3 := fz 3; have y4 := fz 4; have y5 := fz 5; have y6 := fz 6; clear fz; have HB := Lib.hid hb; clear hb)) | fail
        all_goals go_wp2
        all_goals
          have hr12 := (show w12.heap[w.heap.size]? = some (.cells #[.int .i64 0, .int .i64 0, .int .i64 0, .int .i64 0, .int .i64 0, .int .i64 0, .int .i64 0] 23 (0, 0)) from (HB.out.block w.heap.size (by exact hRlt.out)).trans HRES.out)
          have hbe : Below w.heap.size w w12 := below_step (by repeat (first | (with_reducible exact HBE.out) | (with_reducible apply below_drew) | (with_reducible apply pw_below_drewN) | exact HBE.out)) HB.out
          exact bodyPost_ret (results_ct rfl _ _ w.heap.size 23 #[.int .i64 r1, .int .i64 r2, .int .i64 r3, .int .i64 r4, .int .i64 r5, .int .i64 r6, .int .i64 r7] (0, 0) _ rfl (set7 hr12 _ _ _ _ _ _ _).1 Tryd.underlying23 rfl (by kernel_rfl)) rfl ⟨rfl, (set7 hr12 _ _ _ _ _ _ _).2 _ _ hbe (Nat.le_refl _)⟩
theorem moment_ReadHeader.calls (a0 : ByteArray) (r1 r2 r3 r4 r5 r6 r7 r8 : Int) (w : World) (h : moment_ReadHeader.f a0 = some (r1, r2, r3, r4, r5, r6, r7, r8)) (hL : Laid w) :
    Calls Tryd.prog 27 #[.string a0] w fun e w' => e = .returned (.tuple #[.agg #[.int .i64 r1, .int .i64 r2, .int .i64 r3, .int .i64 r4, .int .i64 r5, .int .i64 r6, .int .i64 r7], .int .i64 r8]) ∧ Below w.heap.size w w' := by
  unfold moment_ReadHeader.f at h
  by_cases hs : a0.size ≤ 140737488351232
  · rw [if_pos hs] at h
    exact readHeader_calls a0 r1 r2 r3 r4 r5 r6 r7 r8 w hs h hL
  · rw [if_neg hs] at h
    exact absurd h (by simp)
end Go.Proofs.YtjlchnmpebdggaaDoor.Mo
end
section
namespace Go.Proofs.YtjlchnmpebdggaaDoor.Mo
open Go.RowKit Go.Proofs.YtjlchnmpebdggaaDoorW.PrintWords Go.Proofs.YtjlchnmpebdggaaDoorW.PrintLast Go.Proofs.YtjlchnmpebdggaaDoorW.PrintMore
attribute [local go_sem] max2_int min2_int max_two min_two max_three min_three max_four min_four   -- for this text's walks alone
set_option linter.unusedVariables false
set_option linter.unusedSimpArgs false
def moment_refused.f (a0_0 : Int) (a0_1 : Int) (a0_2 : Int) (a0_3 : Int) (a0_4 : Int) (a0_5 : Int) (a0_6 : Int) : Option (Int) := (moment_isDay.f a0_0 a0_1 a0_2 a0_3 a0_4 a0_5 a0_6).bind fun t135 => (if t135 = true then ((moment_Valid.f a0_0 a0_1 a0_2 a0_3 a0_4 a0_5 a0_6).bind fun t136 => (if t136 = true then (some 0) else (some 20))) else (some 21))
set_option maxHeartbeats 8000000 in
set_option maxRecDepth 100000 in
theorem moment_refused.calls (a0_0 : Int) (a0_1 : Int) (a0_2 : Int) (a0_3 : Int) (a0_4 : Int) (a0_5 : Int) (a0_6 : Int) (r : Int) (w : World) (h : moment_refused.f a0_0 a0_1 a0_2 a0_3 a0_4 a0_5 a0_6 = some r) (hL_ : Laid w) :
  Calls Tryd.prog 63 #[.agg #[.int .i64 a0_0, .int .i64 a0_1, .int .i64 a0_2, .int .i64 a0_3, .int .i64 a0_4, .int .i64 a0_5, .int .i64 a0_6]] w fun e w' => e = .returned (.int .i64 r) ∧ Below w.heap.size w w' := by
 have HL_ := Aside0.mk hL_
 clear hL_
 have hu23 := Tryd.underlying23
 have HB := Aside0.mk (Below.refl w.heap.size w)
 have H : ((moment_isDay.f a0_0 a0_1 a0_2 a0_3 a0_4 a0_5 a0_6).bind fun t135 => (if t135 = true then ((moment_Valid.f a0_0 a0_1 a0_2 a0_3 a0_4 a0_5 a0_6).bind fun t136 => (if t136 = true then (some 0) else (some 20))) else (some 21))) = some r := h
 clear h
 replace H := Option.bind_eq_some_iff.mp H
 obtain ⟨t135, A20, H⟩ := H
 replace H : (if t135 = true then ((moment_Valid.f a0_0 a0_1 a0_2 a0_3 a0_4 a0_5 a0_6).bind fun t136 => (if t136 = true then (some 0) else (some 20))) else (some 21)) = some r := H
 have A2 := Aside0.mk A20
 clear A20
 by_cases c3 : t135 = true
 ·subst c3
  have H1 : ((moment_Valid.f a0_0 a0_1 a0_2 a0_3 a0_4 a0_5 a0_6).bind fun t136 => (if t136 = true then (some 0) else (some 20))) = some r := by rw [if_pos rfl] at H; exact H
  clear H
  have H := H1
  clear H1
  replace H := Option.bind_eq_some_iff.mp H
  obtain ⟨t136, A40, H⟩ := H
  replace H : (if t136 = true then (some 0) else (some 20)) = some r := H
  have A4 := Aside0.mk A40
  clear A40
  by_cases c5 : t136 = true
  ·subst c5
   have H1 : (some 0) = some r := by rw [if_pos rfl] at H; exact H
   clear H
   have H := H1
   clear H1
   obtain rfl := Option.some.inj H
   go_enter Tryd.func63, Tryd.ntmps63
   go_wp2_with (first | ((with_reducible refine gate_dst (N := 1) rfl ?_); refine box_event ?hg (N := 1) ?hd (cs := #[.int .i64 a0_0, .int .i64 a0_1, .int .i64 a0_2, .int .i64 a0_3, .int .i64 a0_4, .int .i64 a0_5, .int .i64 a0_6]) (t := 23) ?hr ?_; (case hd => rfl); (case hg => rfl); (case hr => first | (go_simp; done) | (go_simp; rfl)); intro gb134 hg w6 hbox hb; have n0_ := Aside0.mk (below_step (by repeat (first | (with_reducible first | exact HB.out | apply below_alloc | apply pw_below_drewN | apply below_drew1) | exact HB.out)) hb); have n1_ := Aside0.mk (hbox); have n2_ := Aside0.mk ((by rw [hg]; exact (below_size (by repeat (first | (with_reducible first | exact HB.out | apply below_alloc | apply pw_below_drewN | apply below_drew1) | exact HB.out))) : w.heap.size ≤ gb134)); have n3_ := Aside0.mk ((by rw [hg]; exact (below_size (by repeat (first | (with_reducible first | exact HB.out | apply below_alloc | apply pw_below_drewN | apply below_drew1) | exact HB.out))) : w.heap.size ≤ gb134)); clear HB; have HB := n0_; have BK134 := n1_; have GW134 := n2_; have GE134 := n3_; clear n0_ n1_ n2_ n3_; clear hb hbox hg; have hcz7_0 : w6.cell? ⟨gb134, 0, none⟩ = some (.int .i64 a0_0) := (blk_cell BK134.out 0).trans rfl; have hcz7_1 : w6.cell? ⟨gb134, 1, none⟩ = some (.int .i64 a0_1) := (blk_cell BK134.out 1).trans rfl; have hcz7_2 : w6.cell? ⟨gb134, 2, none⟩ = some (.int .i64 a0_2) := (blk_cell BK134.out 2).trans rfl; have hcz7_3 : w6.cell? ⟨gb134, 3, none⟩ = some (.int .i64 a0_3) := (blk_cell BK134.out 3).trans rfl; have hcz7_4 : w6.cell? ⟨gb134, 4, none⟩ = some (.int .i64 a0_4) := (blk_cell BK134.out 4).trans rfl; have hcz7_5 : w6.cell? ⟨gb134, 5, none⟩ = some (.int .i64 a0_5) := (blk_cell BK134.out 5).trans rfl; have hcz7_6 : w6.cell? ⟨gb134, 6, none⟩ = some (.int .i64 a0_6) := (blk_cell BK134.out 6).trans rfl; have hfz7_0 := blk_frozen BK134.out 0; have hfz7_1 := blk_frozen BK134.out 1; have hfz7_2 := blk_frozen BK134.out 2; have hfz7_3 := blk_frozen BK134.out 3; have hfz7_4 := blk_frozen BK134.out 4; have hfz7_5 := blk_frozen BK134.out 5; have hfz7_6 := blk_frozen BK134.out 6) | ((with_reducible refine gate_callee (f := 46) rfl ?_); refine goesL_ (some 5) rfl rfl Tryd.func46 (by kernel_rfl) rfl #[.agg #[.int .i64 a0_0, .int .i64 a0_1, .int .i64 a0_2, .int .i64 a0_3, .int .i64 a0_4, .int .i64 a0_5, .int .i64 a0_6]] rfl (by (try simp only [List.map_toArray, List.map_cons, List.map_nil]); first | done | rfl | (simp only [List.length_drop, List.length_take]; rfl)) ?_; (with_reducible refine (moment_isDay.calls a0_0 a0_1 a0_2 a0_3 a0_4 a0_5 a0_6 true _ A2.out (by first | exact laid_below HL_.out (by repeat (first | (with_reducible first | exact HB.out | apply below_alloc | apply pw_below_drewN | apply below_drew1) | exact HB.out)) | exact laid_drawn HL_.out (by repeat (first | exact Drawn0.refl _ | apply Drawn0.step)))).mono ?_); rintro e w8 ⟨rfl, hb⟩; refine ⟨_, rfl, ?_⟩; have n0_ := Aside0.mk (blk_below (g := gb134) (o := .cells #[.int .i64 a0_0, .int .i64 a0_1, .int .i64 a0_2, .int .i64 a0_3, .int .i64 a0_4, .int .i64 a0_5, .int .i64 a0_6] 23 (0, 0)) (by (with_reducible repeat (first | refine blk_drewN ?_ _ | refine blk_drew ?_ | refine blk_alloc ?_ _)); exact BK134.out) hb); have n1_ := Aside0.mk (below_step (by repeat (first | (with_reducible first | exact HB.out | apply below_alloc | apply pw_below_drewN | apply below_drew1 | refine below_set ?_ GE134.out) | exact HB.out)) hb); clear BK134; clear HB; have BK134 := n0_; have HB := n1_; clear n0_ n1_; (try clear hb); (try clear hb2); (try clear hk); (try clear hi); have hcz9_0 : w8.cell? ⟨gb134, 0, none⟩ = some (.int .i64 a0_0) := (blk_cell BK134.out 0).trans rfl; have hcz9_1 : w8.cell? ⟨gb134, 1, none⟩ = some (.int .i64 a0_1) := (blk_cell BK134.out 1).trans rfl; have hcz9_2 : w8.cell? ⟨gb134, 2, none⟩ = some (.int .i64 a0_2) := (blk_cell BK134.out 2).trans rfl; have hcz9_3 : w8.cell? ⟨gb134, 3, none⟩ = some (.int .i64 a0_3) := (blk_cell BK134.out 3).trans rfl; have hcz9_4 : w8.cell? ⟨gb134, 4, none⟩ = some (.int .i64 a0_4) := (blk_cell BK134.out 4).trans rfl; have hcz9_5 : w8.cell? ⟨gb134, 5, none⟩ = some (.int .i64 a0_5) := (blk_cell BK134.out 5).trans rfl; have hcz9_6 : w8.cell? ⟨gb134, 6, none⟩ = some (.int .i64 a0_6) := (blk_cell BK134.out 6).trans rfl; have hfz9_0 := blk_frozen BK134.out 0; have hfz9_1 := blk_frozen BK134.out 1; have hfz9_2 := blk_frozen BK134.out 2; have hfz9_3 := blk_frozen BK134.out 3; have hfz9_4 := blk_frozen BK134.out 4; have hfz9_5 := blk_frozen BK134.out 5; have hfz9_6 := blk_frozen BK134.out 6) | ((with_reducible refine gate_callee (f := 19) rfl ?_); refine goesL_ (some 9) rfl rfl Tryd.func19 (by kernel_rfl) rfl #[.agg #[.int .i64 a0_0, .int .i64 a0_1, .int .i64 a0_2, .int .i64 a0_3, .int .i64 a0_4, .int .i64 a0_5, .int .i64 a0_6]] rfl (by (try simp only [List.map_toArray, List.map_cons, List.map_nil]); first | done | rfl | (simp only [List.length_drop, List.length_take]; rfl)) ?_; (with_reducible refine (moment_Valid.calls a0_0 a0_1 a0_2 a0_3 a0_4 a0_5 a0_6 true _ A4.out (by first | exact laid_below HL_.out (by repeat (first | (with_reducible first | exact HB.out | apply below_alloc | apply pw_below_drewN | apply below_drew1) | exact HB.out)) | exact laid_drawn HL_.out (by repeat (first | exact Drawn0.refl _ | apply Drawn0.step)))).mono ?_); rintro e w10 ⟨rfl, hb⟩; refine ⟨_, rfl, ?_⟩; have n0_ := Aside0.mk (blk_below (g := gb134) (o := .cells #[.int .i64 a0_0, .int .i64 a0_1, .int .i64 a0_2, .int .i64 a0_3, .int .i64 a0_4, .int .i64 a0_5, .int .i64 a0_6] 23 (0, 0)) (by (with_reducible repeat (first | refine blk_drewN ?_ _ | refine blk_drew ?_ | refine blk_alloc ?_ _)); exact BK134.out) hb); have n1_ := Aside0.mk (below_step (by repeat (first | (with_reducible first | exact HB.out | apply below_alloc | apply pw_below_drewN | apply below_drew1 | refine below_set ?_ GE134.out) | exact HB.out)) hb); clear BK134; clear HB; have BK134 := n0_; have HB := n1_; clear n0_ n1_; (try clear hb); (try clear hb2); (try clear hk); (try clear hi)))
   go_ret
   exact ⟨by first | rfl | (simp [errW_none, errW_some] <;> rfl) | (simp [*, errW_none, errW_some] <;> rfl), by repeat (first | (with_reducible first | exact HB.out | apply below_alloc | apply pw_below_drewN | apply below_drew1 | refine below_set ?_ GE134.out) | exact HB.out)⟩
  ·replace c5 := Bool.eq_false_iff.mpr c5
   subst c5
   have H1 : (some 20) = some r := by rw [if_neg (show ¬ (false = true) by decide)] at H; exact H
   clear H
   have H := H1
   clear H1
   obtain rfl := Option.some.inj H
   go_enter Tryd.func63, Tryd.ntmps63
   go_wp2_with (first | ((with_reducible refine gate_dst (N := 1) rfl ?_); refine box_event ?hg (N := 1) ?hd (cs := #[.int .i64 a0_0, .int .i64 a0_1, .int .i64 a0_2, .int .i64 a0_3, .int .i64 a0_4, .int .i64 a0_5, .int .i64 a0_6]) (t := 23) ?hr ?_; (case hd => rfl); (case hg => rfl); (case hr => first | (go_simp; done) | (go_simp; rfl)); intro gb134 hg w11 hbox hb; have n0_ := Aside0.mk (below_step (by repeat (first | (with_reducible first | exact HB.out | apply below_alloc | apply pw_below_drewN | apply below_drew1) | exact HB.out)) hb); have n1_ := Aside0.mk (hbox); have n2_ := Aside0.mk ((by rw [hg]; exact (below_size (by repeat (first | (with_reducible first | exact HB.out | apply below_alloc | apply pw_below_drewN | apply below_drew1) | exact HB.out))) : w.heap.size ≤ gb134)); have n3_ := Aside0.mk ((by rw [hg]; exact (below_size (by repeat (first | (with_reducible first | exact HB.out | apply below_alloc | apply pw_below_drewN | apply below_drew1) | exact HB.out))) : w.heap.size ≤ gb134)); clear HB; have HB := n0_; have BK134 := n1_; have GW134 := n2_; have GE134 := n3_; clear n0_ n1_ n2_ n3_; clear hb hbox hg; have hcz12_0 : w11.cell? ⟨gb134, 0, none⟩ = some (.int .i64 a0_0) := (blk_cell BK134.out 0).trans rfl; have hcz12_1 : w11.cell? ⟨gb134, 1, none⟩ = some (.int .i64 a0_1) := (blk_cell BK134.out 1).trans rfl; have hcz12_2 : w11.cell? ⟨gb134, 2, none⟩ = some (.int .i64 a0_2) := (blk_cell BK134.out 2).trans rfl; have hcz12_3 : w11.cell? ⟨gb134, 3, none⟩ = some (.int .i64 a0_3) := (blk_cell BK134.out 3).trans rfl; have hcz12_4 : w11.cell? ⟨gb134, 4, none⟩ = some (.int .i64 a0_4) := (blk_cell BK134.out 4).trans rfl; have hcz12_5 : w11.cell? ⟨gb134, 5, none⟩ = some (.int .i64 a0_5) := (blk_cell BK134.out 5).trans rfl; have hcz12_6 : w11.cell? ⟨gb134, 6, none⟩ = some (.int .i64 a0_6) := (blk_cell BK134.out 6).trans rfl; have hfz12_0 := blk_frozen BK134.out 0; have hfz12_1 := blk_frozen BK134.out 1; have hfz12_2 := blk_frozen BK134.out 2; have hfz12_3 := blk_frozen BK134.out 3; have hfz12_4 := blk_frozen BK134.out 4; have hfz12_5 := blk_frozen BK134.out 5; have hfz12_6 := blk_frozen BK134.out 6) | ((with_reducible refine gate_callee (f := 46) rfl ?_); refine goesL_ (some 5) rfl rfl Tryd.func46 (by kernel_rfl) rfl #[.agg #[.int .i64 a0_0, .int .i64 a0_1, .int .i64 a0_2, .int .i64 a0_3, .int .i64 a0_4, .int .i64 a0_5, .int .i64 a0_6]] rfl (by (try simp only [List.map_toArray, List.map_cons, List.map_nil]); first | done | rfl | (simp only [List.length_drop, List.length_take]; rfl)) ?_; (with_reducible refine (moment_isDay.calls a0_0 a0_1 a0_2 a0_3 a0_4 a0_5 a0_6 true _ A2.out (by first | exact laid_below HL_.out (by repeat (first | (with_reducible first | exact HB.out | apply below_alloc | apply pw_below_drewN | apply below_drew1) | exact HB.out)) | exact laid_drawn HL_.out (by repeat (first | exact Drawn0.refl _ | apply Drawn0.step)))).mono ?_); rintro e w13 ⟨rfl, hb⟩; refine ⟨_, rfl, ?_⟩; have n0_ := Aside0.mk (blk_below (g := gb134) (o := .cells #[.int .i64 a0_0, .int .i64 a0_1, .int .i64 a0_2, .int .i64 a0_3, .int .i64 a0_4, .int .i64 a0_5, .int .i64 a0_6] 23 (0, 0)) (by (with_reducible repeat (first | refine blk_drewN ?_ _ | refine blk_drew ?_ | refine blk_alloc ?_ _)); exact BK134.out) hb); have n1_ := Aside0.mk (below_step (by repeat (first | (with_reducible first | exact HB.out | apply below_alloc | apply pw_below_drewN | apply below_drew1 | refine below_set ?_ GE134.out) | exact HB.out)) hb); clear BK134; clear HB; have BK134 := n0_; have HB := n1_; clear n0_ n1_; (try clear hb); (try clear hb2); (try clear hk); (try clear hi); have hcz14_0 : w13.cell? ⟨gb134, 0, none⟩ = some (.int .i64 a0_0) := (blk_cell BK134.out 0).trans rfl; have hcz14_1 : w13.cell? ⟨gb134, 1, none⟩ = some (.int .i64 a0_1) := (blk_cell BK134.out 1).trans rfl; have hcz14_2 : w13.cell? ⟨gb134, 2, none⟩ = some (.int .i64 a0_2) := (blk_cell BK134.out 2).trans rfl; have hcz14_3 : w13.cell? ⟨gb134, 3, none⟩ = some (.int .i64 a0_3) := (blk_cell BK134.out 3).trans rfl; have hcz14_4 : w13.cell? ⟨gb134, 4, none⟩ = some (.int .i64 a0_4) := (blk_cell BK134.out 4).trans rfl; have hcz14_5 : w13.cell? ⟨gb134, 5, none⟩ = some (.int .i64 a0_5) := (blk_cell BK134.out 5).trans rfl; have hcz14_6 : w13.cell? ⟨gb134, 6, none⟩ = some (.int .i64 a0_6) := (blk_cell BK134.out 6).trans rfl; have hfz14_0 := blk_frozen BK134.out 0; have hfz14_1 := blk_frozen BK134.out 1; have hfz14_2 := blk_frozen BK134.out 2; have hfz14_3 := blk_frozen BK134.out 3; have hfz14_4 := blk_frozen BK134.out 4; have hfz14_5 := blk_frozen BK134.out 5; have hfz14_6 := blk_frozen BK134.out 6) | ((with_reducible refine gate_callee (f := 19) rfl ?_); refine goesL_ (some 9) rfl rfl Tryd.func19 (by kernel_rfl) rfl #[.agg #[.int .i64 a0_0, .int .i64 a0_1, .int .i64 a0_2, .int .i64 a0_3, .int .i64 a0_4, .int .i64 a0_5, .int .i64 a0_6]] rfl (by (try simp only [List.map_toArray, List.map_cons, List.map_nil]); first | done | rfl | (simp only [List.length_drop, List.length_take]; rfl)) ?_; (with_reducible refine (moment_Valid.calls a0_0 a0_1 a0_2 a0_3 a0_4 a0_5 a0_6 false _ A4.out (by first | exact laid_below HL_.out (by repeat (first | (with_reducible first | exact HB.out | apply below_alloc | apply pw_below_drewN | apply below_drew1) | exact HB.out)) | exact laid_drawn HL_.out (by repeat (first | exact Drawn0.refl _ | apply Drawn0.step)))).mono ?_); rintro e w15 ⟨rfl, hb⟩; refine ⟨_, rfl, ?_⟩; have n0_ := Aside0.mk (blk_below (g := gb134) (o := .cells #[.int .i64 a0_0, .int .i64 a0_1, .int .i64 a0_2, .int .i64 a0_3, .int .i64 a0_4, .int .i64 a0_5, .int .i64 a0_6] 23 (0, 0)) (by (with_reducible repeat (first | refine blk_drewN ?_ _ | refine blk_drew ?_ | refine blk_alloc ?_ _)); exact BK134.out) hb); have n1_ := Aside0.mk (below_step (by repeat (first | (with_reducible first | exact HB.out | apply below_alloc | apply pw_below_drewN | apply below_drew1 | refine below_set ?_ GE134.out) | exact HB.out)) hb); clear BK134; clear HB; have BK134 := n0_; have HB := n1_; clear n0_ n1_; (try clear hb); (try clear hb2); (try clear hk); (try clear hi)))
   go_ret
   exact ⟨by first | rfl | (simp [errW_none, errW_some] <;> rfl) | (simp [*, errW_none, errW_some] <;> rfl), by repeat (first | (with_reducible first | exact HB.out | apply below_alloc | apply pw_below_drewN | apply below_drew1 | refine below_set ?_ GE134.out) | exact HB.out)⟩
 ·replace c3 := Bool.eq_false_iff.mpr c3
  subst c3
  have H1 : (some 21) = some r := by rw [if_neg (show ¬ (false = true) by decide)] at H; exact H
  clear H
  have H := H1
  clear H1
  obtain rfl := Option.some.inj H
  go_enter Tryd.func63, Tryd.ntmps63
  go_wp2_with (first | ((with_reducible refine gate_dst (N := 1) rfl ?_); refine box_event ?hg (N := 1) ?hd (cs := #[.int .i64 a0_0, .int .i64 a0_1, .int .i64 a0_2, .int .i64 a0_3, .int .i64 a0_4, .int .i64 a0_5, .int .i64 a0_6]) (t := 23) ?hr ?_; (case hd => rfl); (case hg => rfl); (case hr => first | (go_simp; done) | (go_simp; rfl)); intro gb134 hg w16 hbox hb; have n0_ := Aside0.mk (below_step (by repeat (first | (with_reducible first | exact HB.out | apply below_alloc | apply pw_below_drewN | apply below_drew1) | exact HB.out)) hb); have n1_ := Aside0.mk (hbox); have n2_ := Aside0.mk ((by rw [hg]; exact (below_size (by repeat (first | (with_reducible first | exact HB.out | apply below_alloc | apply pw_below_drewN | apply below_drew1) | exact HB.out))) : w.heap.size ≤ gb134)); have n3_ := Aside0.mk ((by rw [hg]; exact (below_size (by repeat (first | (with_reducible first | exact HB.out | apply below_alloc | apply pw_below_drewN | apply below_drew1) | exact HB.out))) : w.heap.size ≤ gb134)); clear HB; have HB := n0_; have BK134 := n1_; have GW134 := n2_; have GE134 := n3_; clear n0_ n1_ n2_ n3_; clear hb hbox hg; have hcz17_0 : w16.cell? ⟨gb134, 0, none⟩ = some (.int .i64 a0_0) := (blk_cell BK134.out 0).trans rfl; have hcz17_1 : w16.cell? ⟨gb134, 1, none⟩ = some (.int .i64 a0_1) := (blk_cell BK134.out 1).trans rfl; have hcz17_2 : w16.cell? ⟨gb134, 2, none⟩ = some (.int .i64 a0_2) := (blk_cell BK134.out 2).trans rfl; have hcz17_3 : w16.cell? ⟨gb134, 3, none⟩ = some (.int .i64 a0_3) := (blk_cell BK134.out 3).trans rfl; have hcz17_4 : w16.cell? ⟨gb134, 4, none⟩ = some (.int .i64 a0_4) := (blk_cell BK134.out 4).trans rfl; have hcz17_5 : w16.cell? ⟨gb134, 5, none⟩ = some (.int .i64 a0_5) := (blk_cell BK134.out 5).trans rfl; have hcz17_6 : w16.cell? ⟨gb134, 6, none⟩ = some (.int .i64 a0_6) := (blk_cell BK134.out 6).trans rfl; have hfz17_0 := blk_frozen BK134.out 0; have hfz17_1 := blk_frozen BK134.out 1; have hfz17_2 := blk_frozen BK134.out 2; have hfz17_3 := blk_frozen BK134.out 3; have hfz17_4 := blk_frozen BK134.out 4; have hfz17_5 := blk_frozen BK134.out 5; have hfz17_6 := blk_frozen BK134.out 6) | ((with_reducible refine gate_callee (f := 46) rfl ?_); refine goesL_ (some 5) rfl rfl Tryd.func46 (by kernel_rfl) rfl #[.agg #[.int .i64 a0_0, .int .i64 a0_1, .int .i64 a0_2, .int .i64 a0_3, .int .i64 a0_4, .int .i64 a0_5, .int .i64 a0_6]] rfl (by (try simp only [List.map_toArray, List.map_cons, List.map_nil]); first | done | rfl | (simp only [List.length_drop, List.length_take]; rfl)) ?_; (with_reducible refine (moment_isDay.calls a0_0 a0_1 a0_2 a0_3 a0_4 a0_5 a0_6 false _ A2.out (by first | exact laid_below HL_.out (by repeat (first | (with_reducible first | exact HB.out | apply below_alloc | apply pw_below_drewN | apply below_drew1) | exact HB.out)) | exact laid_drawn HL_.out (by repeat (first | exact Drawn0.refl _ | apply Drawn0.step)))).mono ?_); rintro e w18 ⟨rfl, hb⟩; refine ⟨_, rfl, ?_⟩; have n0_ := Aside0.mk (blk_below (g := gb134) (o := .cells #[.int .i64 a0_0, .int .i64 a0_1, .int .i64 a0_2, .int .i64 a0_3, .int .i64 a0_4, .int .i64 a0_5, .int .i64 a0_6] 23 (0, 0)) (by (with_reducible repeat (first | refine blk_drewN ?_ _ | refine blk_drew ?_ | refine blk_alloc ?_ _)); exact BK134.out) hb); have n1_ := Aside0.mk (below_step (by repeat (first | (with_reducible first | exact HB.out | apply below_alloc | apply pw_below_drewN | apply below_drew1 | refine below_set ?_ GE134.out) | exact HB.out)) hb); clear BK134; clear HB; have BK134 := n0_; have HB := n1_; clear n0_ n1_; (try clear hb); (try clear hb2); (try clear hk); (try clear hi)))
  go_ret
  exact ⟨by first | rfl | (simp [errW_none, errW_some] <;> rfl) | (simp [*, errW_none, errW_some] <;> rfl), by repeat (first | (with_reducible first | exact HB.out | apply below_alloc | apply pw_below_drewN | apply below_drew1 | refine below_set ?_ GE134.out) | exact HB.out)⟩
end Go.Proofs.YtjlchnmpebdggaaDoor.Mo
end
section
namespace Go.Proofs.YtjlchnmpebdggaaDoor.Mo
open Go.RowKit Go.Proofs.YtjlchnmpebdggaaDoorW.PrintWords
def isDayB (y m d : Int) : Bool := decide (1 ≤ y ∧ y ≤ 9999 ∧ 1 ≤ m ∧ m ≤ 12 ∧ 1 ≤ d ∧ d ≤ lengthP y m)
def timeB (h mi s z : Int) : Bool := decide (0 ≤ h ∧ h ≤ 23 ∧ 0 ≤ mi ∧ mi ≤ 59 ∧ 0 ≤ s ∧ s ≤ 59 ∧ -1439 ≤ z ∧ z ≤ 1439)
def validB (y m d h mi s z : Int) : Bool := isDayB y m d && timeB h mi s z
theorem isDay_iff (y m d : Int) : isDayB y m d = true ↔ 1 ≤ y ∧ y ≤ 9999 ∧ 1 ≤ m ∧ m ≤ 12 ∧ 1 ≤ d ∧ d ≤ lengthP y m := by simp [isDayB]
theorem time_iff (h mi s z : Int) : timeB h mi s z = true ↔ 0 ≤ h ∧ h ≤ 23 ∧ 0 ≤ mi ∧ mi ≤ 59 ∧ 0 ≤ s ∧ s ≤ 59 ∧ -1439 ≤ z ∧ z ≤ 1439 := by simp [timeB]
theorem valid_iff (y m d h mi s z : Int) : validB y m d h mi s z = true ↔ isDayB y m d = true ∧ timeB h mi s z = true := by simp [validB]
theorem isDay_f (y m d h mi s z : Int) : moment_isDay.f y m d h mi s z = some (isDayB y m d) := by
  unfold moment_isDay.f
  by_cases h1 : y < 1
  · rw [if_pos h1, (show isDayB y m d = false from Bool.eq_false_iff.2 (fun h => by have := (isDay_iff y m d).1 h; omega))]
  · rw [if_neg h1]
    by_cases h2 : y > 9999
    · rw [if_pos h2, (show isDayB y m d = false from Bool.eq_false_iff.2 (fun h => by have := (isDay_iff y m d).1 h; omega))]
    · rw [if_neg h2]
      by_cases h3 : m < 1
      · rw [if_pos h3, (show isDayB y m d = false from Bool.eq_false_iff.2 (fun h => by have := (isDay_iff y m d).1 h; omega))]
      · rw [if_neg h3]
        by_cases h4 : m > 12
        · rw [if_pos h4, (show isDayB y m d = false from Bool.eq_false_iff.2 (fun h => by have := (isDay_iff y m d).1 h; omega))]
        · rw [if_neg h4]
          by_cases h5 : d ≥ 1
          · rw [if_pos h5]
            unfold moment_length.f
            rw [if_pos ⟨by omega, by omega⟩]
            simp only [Option.bind_some]
            unfold isDayB
            congr 1
            apply decide_eq_decide.2
            constructor
            · intro h; exact ⟨by omega, by omega, by omega, by omega, h5, h⟩
            · intro h; exact h.2.2.2.2.2
          · rw [if_neg h5, (show isDayB y m d = false from Bool.eq_false_iff.2 (fun h => by have := (isDay_iff y m d).1 h; omega))]
theorem valid_f (y m d h mi s z : Int) : moment_Valid.f y m d h mi s z = some (validB y m d h mi s z) := by
  unfold moment_Valid.f validB
  rw [isDay_f]
  simp only [Option.bind_some]
  cases isDayB y m d with
  | false => rw [if_neg (by simp)]; rfl
  | true =>
    rw [if_pos rfl, Bool.true_and]
    have hf : ∀ (p : Prop), (timeB h mi s z = true → ¬ p) → p → timeB h mi s z = false := fun p h1 h2 => Bool.eq_false_iff.2 (fun h => h1 h h2)
    have hi := time_iff h mi s z
    by_cases h1 : h < 0
    · rw [if_pos h1, hf (h < 0) (fun q => by have := hi.1 q; omega) h1]
    · rw [if_neg h1]
      by_cases h2 : h > 23
      · rw [if_pos h2, hf (h > 23) (fun q => by have := hi.1 q; omega) h2]
      · rw [if_neg h2]
        by_cases h3 : mi < 0
        · rw [if_pos h3, hf (mi < 0) (fun q => by have := hi.1 q; omega) h3]
        · rw [if_neg h3]
          by_cases h4 : mi > 59
          · rw [if_pos h4, hf (mi > 59) (fun q => by have := hi.1 q; omega) h4]
          · rw [if_neg h4]
            by_cases h5 : s < 0
            · rw [if_pos h5, hf (s < 0) (fun q => by have := hi.1 q; omega) h5]
            · rw [if_neg h5]
              by_cases h6 : s > 59
              · rw [if_pos h6, hf (s > 59) (fun q => by have := hi.1 q; omega) h6]
              · rw [if_neg h6]
                by_cases h7 : z ≥ (-1439)
                · rw [if_pos h7]
                  congr 1
                  unfold timeB
                  apply decide_eq_decide.2
                  constructor
                  · intro q; exact ⟨by omega, by omega, by omega, by omega, by omega, by omega, by omega, q⟩
                  · intro q; exact q.2.2.2.2.2.2.2
                · rw [if_neg h7, hf (¬ z ≥ (-1439)) (fun q => by have := hi.1 q; omega) h7]
def refuseP (y m d h mi s z : Int) : Int := if isDayB y m d = true then (if validB y m d h mi s z = true then 0 else 20) else 21
theorem refused_f (y m d h mi s z : Int) : moment_refused.f y m d h mi s z = some (refuseP y m d h mi s z) := by
  unfold moment_refused.f refuseP
  rw [isDay_f, valid_f]
  simp only [Option.bind_some]
  split
  · split <;> rfl
  · rfl
def plainP (d : Int) : ByteArray := if bt (twoP d) 0 = 48 then (twoP d).extract 1 2 else twoP d
theorem plain_f (d : Int) : moment_plain.f d = some (plainP d) := by
  unfold moment_plain.f plainP
  rw [two_f]
  simp only [Option.bind_some]
  rw [if_pos (by rw [twoP_size]; omega)]
  split
  · rw [if_pos (by rw [twoP_size]; omega), twoP_size]
  · rfl
theorem plainP_size (d : Int) : (plainP d).size = 1 ∨ (plainP d).size = 2 := by
  unfold plainP
  split
  · left; rw [ByteArray.size_extract, twoP_size]; rfl
  · right; exact twoP_size d
def padP (d : Int) : ByteArray := if (plainP d).size = 1 then ⟨#[32]⟩ ++ plainP d else plainP d
end Go.Proofs.YtjlchnmpebdggaaDoor.Mo
end
section
namespace Go.Proofs.YtjlchnmpebdggaaDoor.Mo
open Go.RowKit Go.Proofs.YtjlchnmpebdggaaDoorW.PrintWords
def clockT (h mi se zz : Int) (sign : ByteArray) : ByteArray := twoP h ++ ⟨#[58]⟩ ++ twoP mi ++ ⟨#[58]⟩ ++ twoP se ++ ⟨#[32]⟩ ++ sign ++ twoP (zz / 60) ++ twoP (zz % 60)
def clockP (h mi se z : Int) : ByteArray := if z < 0 then clockT h mi se (-z) ⟨#[45]⟩ else clockT h mi se z ⟨#[43]⟩
theorem two_calls (n : Int) (w : World) : Calls Tryd.prog 87 #[.int .i64 n] w fun e w' => e = .returned (.string (twoP n)) ∧ Below w.heap.size w w' := moment_two.calls n _ w (two_f n)
theorem clockT_size (h mi se zz : Int) (sign : ByteArray) (hs : sign.size = 1) : (clockT h mi se zz sign).size = 14 := by
  unfold clockT
  simp only [ByteArray.size_append, twoP_size, hs]
  rfl
theorem clockP_size (h mi se z : Int) : (clockP h mi se z).size = 14 := by
  unfold clockP; split <;> exact clockT_size _ _ _ _ _ rfl
set_option maxHeartbeats 4000000 in
set_option maxRecDepth 100000 in
theorem clock_calls (y mo d h mi se z : Int) (w : World) (h0 : -1439 ≤ z) (h1 : z ≤ 1439) :
    Calls Tryd.prog 64 #[.agg #[.int .i64 y, .int .i64 mo, .int .i64 d, .int .i64 h, .int .i64 mi, .int .i64 se, .int .i64 z]] w fun e w' => e = .returned (.string (clockP h mi se z)) ∧ Below w.heap.size w w' := by
  have t1 := two_calls h
  have t2 := two_calls mi
  have t3 := two_calls se
  have s1 := twoP_size h
  have s2 := twoP_size mi
  have s3 := twoP_size se
  by_cases hz : z < 0
  · skip
    have hp : clockP h mi se z = twoP h ++ ⟨#[58]⟩ ++ twoP mi ++ ⟨#[58]⟩ ++ twoP se ++ ⟨#[32]⟩ ++ ⟨#[45]⟩ ++ twoP ((-z) / 60) ++ twoP ((-z) % 60) := by unfold clockP; rw [if_pos hz]; rfl
    have d1 : decide (z < 0) = true := decide_eq_true hz
    have z0 : 0 ≤ (-z) := by omega
    have z1 : (-z) ≤ 1439 := by omega
    have t4 := two_calls ((-z) / 60)
    have t5 := two_calls ((-z) % 60)
    have s4 := twoP_size ((-z) / 60)
    have s5 := twoP_size ((-z) % 60)
    generalize twoP h = a1 at *
    generalize twoP mi = a2 at *
    generalize twoP se = a3 at *
    generalize twoP ((-z) / 60) = a4 at *
    generalize twoP ((-z) % 60) = a5 at *
    have T1 := Lib.hid t1
    have T2 := Lib.hid t2
    have T3 := Lib.hid t3
    have T4 := Lib.hid t4
    have T5 := Lib.hid t5
    have HP := Lib.hid hp
    clear t1 t2 t3 t4 t5 hp
    go_enter Tryd.func64, Tryd.ntmps64
    go_wp2_with fail
    go_quiet (fail)
    go_wp2_with fail
    have m3 : ((w.alloc (.cells #[.int .i64 y, .int .i64 mo, .int .i64 d, .int .i64 h, .int .i64 mi, .int .i64 se, .int .i64 z] 23)).drewN nq).cell? ⟨w.heap.size, 3, none⟩ = some (.int .i64 h) := by go_simp
    have m4 : ((w.alloc (.cells #[.int .i64 y, .int .i64 mo, .int .i64 d, .int .i64 h, .int .i64 mi, .int .i64 se, .int .i64 z] 23)).drewN nq).cell? ⟨w.heap.size, 4, none⟩ = some (.int .i64 mi) := by go_simp
    have m5 : ((w.alloc (.cells #[.int .i64 y, .int .i64 mo, .int .i64 d, .int .i64 h, .int .i64 mi, .int .i64 se, .int .i64 z] 23)).drewN nq).cell? ⟨w.heap.size, 5, none⟩ = some (.int .i64 se) := by go_simp
    have hB : Below w.heap.size w ((w.alloc (.cells #[.int .i64 y, .int .i64 mo, .int .i64 d, .int .i64 h, .int .i64 mi, .int .i64 se, .int .i64 z] 23)).drewN nq) := pw_below_drewN (below_alloc (Below.refl _ w) _) nq
    generalize (w.alloc (.cells #[.int .i64 y, .int .i64 mo, .int .i64 d, .int .i64 h, .int .i64 mi, .int .i64 se, .int .i64 z] 23)).drewN nq = w1 at *
    have HB := Lib.hid hB
    clear hB
    generalize -z = zz at *
    have hq1 : zz.tdiv 60 = zz / 60 := Int.tdiv_eq_ediv_of_nonneg z0
    have hq2 : zz.tmod 60 = zz % 60 := Int.tmod_eq_emod_of_nonneg z0
    have hq3 : IntKind.i64.wrap (zz / 60) = zz / 60 := IntWalk.i64_in _ ⟨by omega, by omega⟩
    have hq4 : IntKind.i64.wrap (zz % 60) = zz % 60 := IntWalk.i64_in _ ⟨by omega, by omega⟩
    go_region_held3 (fun w' => w'.cell? ⟨w.heap.size, 3, none⟩ = some (.int .i64 h) ∧ w'.cell? ⟨w.heap.size, 4, none⟩ = some (.int .i64 mi) ∧ w'.cell? ⟨w.heap.size, 5, none⟩ = some (.int .i64 se)) (go_keep) ((first | (go_at_call 87; (with_reducible refine (T1.out _).mono ?_); rintro e w2 ⟨rfl, hb⟩; have n0_ := Lib.hid (below_step (by repeat (first | (with_reducible exact HB.out) | (with_reducible apply below_drew) | (with_reducible apply pw_below_drewN) | exact HB.out)) hb); clear HB; have HB := n0_; clear n0_; have k3 := pw_cell_below hb (a := ⟨w.heap.size, 3, none⟩) (v := .int .i64 h) (by first | assumption | go_simp); have k4 := pw_cell_below hb (a := ⟨w.heap.size, 4, none⟩) (v := .int .i64 mi) (by first | assumption | go_simp); have k5 := pw_cell_below hb (a := ⟨w.heap.size, 5, none⟩) (v := .int .i64 se) (by first | assumption | go_simp); clear hb) | (go_at_call 87; (with_reducible refine (T2.out _).mono ?_); rintro e w3 ⟨rfl, hb⟩; have n0_ := Lib.hid (below_step (by repeat (first | (with_reducible exact HB.out) | (with_reducible apply below_drew) | (with_reducible apply pw_below_drewN) | exact HB.out)) hb); clear HB; have HB := n0_; clear n0_; have k3 := pw_cell_below hb (a := ⟨w.heap.size, 3, none⟩) (v := .int .i64 h) (by first | assumption | go_simp); have k4 := pw_cell_below hb (a := ⟨w.heap.size, 4, none⟩) (v := .int .i64 mi) (by first | assumption | go_simp); have k5 := pw_cell_below hb (a := ⟨w.heap.size, 5, none⟩) (v := .int .i64 se) (by first | assumption | go_simp); clear hb) | (go_at_call 87; (with_reducible refine (T3.out _).mono ?_); rintro e w4 ⟨rfl, hb⟩; have n0_ := Lib.hid (below_step (by repeat (first | (with_reducible exact HB.out) | (with_reducible apply below_drew) | (with_reducible apply pw_below_drewN) | exact HB.out)) hb); clear HB; have HB := n0_; clear n0_; have k3 := pw_cell_below hb (a := ⟨w.heap.size, 3, none⟩) (v := .int .i64 h) (by first | assumption | go_simp); have k4 := pw_cell_below hb (a := ⟨w.heap.size, 4, none⟩) (v := .int .i64 mi) (by first | assumption | go_simp); have k5 := pw_cell_below hb (a := ⟨w.heap.size, 5, none⟩) (v := .int .i64 se) (by first | assumption | go_simp); clear hb) | (go_at_call 87; (with_reducible refine (T4.out _).mono ?_); rintro e w5 ⟨rfl, hb⟩; have n0_ := Lib.hid (below_step (by repeat (first | (with_reducible exact HB.out) | (with_reducible apply below_drew) | (with_reducible apply pw_below_drewN) | exact HB.out)) hb); clear HB; have HB := n0_; clear n0_; have k3 := pw_cell_below hb (a := ⟨w.heap.size, 3, none⟩) (v := .int .i64 h) (by first | assumption | go_simp); have k4 := pw_cell_below hb (a := ⟨w.heap.size, 4, none⟩) (v := .int .i64 mi) (by first | assumption | go_simp); have k5 := pw_cell_below hb (a := ⟨w.heap.size, 5, none⟩) (v := .int .i64 se) (by first | assumption | go_simp); clear hb) | (go_at_call 87; (with_reducible refine (T5.out _).mono ?_); rintro e w6 ⟨rfl, hb⟩; have n0_ := Lib.hid (below_step (by repeat (first | (with_reducible exact HB.out) | (with_reducible apply below_drew) | (with_reducible apply pw_below_drewN) | exact HB.out)) hb); clear HB; have HB := n0_; clear n0_; have k3 := pw_cell_below hb (a := ⟨w.heap.size, 3, none⟩) (v := .int .i64 h) (by first | assumption | go_simp); have k4 := pw_cell_below hb (a := ⟨w.heap.size, 4, none⟩) (v := .int .i64 mi) (by first | assumption | go_simp); have k5 := pw_cell_below hb (a := ⟨w.heap.size, 5, none⟩) (v := .int .i64 se) (by first | assumption | go_simp); clear hb)))
    all_goals go_wp2
    all_goals go_ret
    all_goals exact ⟨by rw [HP.out]; rfl, HB.out⟩
  · skip
    have hp : clockP h mi se z = twoP h ++ ⟨#[58]⟩ ++ twoP mi ++ ⟨#[58]⟩ ++ twoP se ++ ⟨#[32]⟩ ++ ⟨#[43]⟩ ++ twoP (z / 60) ++ twoP (z % 60) := by unfold clockP; rw [if_neg hz]; rfl
    have d1 : decide (z < 0) = false := decide_eq_false hz
    have z0 : 0 ≤ z := by omega
    have z1 : z ≤ 1439 := by omega
    have t4 := two_calls (z / 60)
    have t5 := two_calls (z % 60)
    have s4 := twoP_size (z / 60)
    have s5 := twoP_size (z % 60)
    generalize twoP h = a1 at *
    generalize twoP mi = a2 at *
    generalize twoP se = a3 at *
    generalize twoP (z / 60) = a4 at *
    generalize twoP (z % 60) = a5 at *
    have T1 := Lib.hid t1
    have T2 := Lib.hid t2
    have T3 := Lib.hid t3
    have T4 := Lib.hid t4
    have T5 := Lib.hid t5
    have HP := Lib.hid hp
    clear t1 t2 t3 t4 t5 hp
    go_enter Tryd.func64, Tryd.ntmps64
    go_wp2_with fail
    go_quiet (fail)
    go_wp2_with fail
    have m3 : ((w.alloc (.cells #[.int .i64 y, .int .i64 mo, .int .i64 d, .int .i64 h, .int .i64 mi, .int .i64 se, .int .i64 z] 23)).drewN nq).cell? ⟨w.heap.size, 3, none⟩ = some (.int .i64 h) := by go_simp
    have m4 : ((w.alloc (.cells #[.int .i64 y, .int .i64 mo, .int .i64 d, .int .i64 h, .int .i64 mi, .int .i64 se, .int .i64 z] 23)).drewN nq).cell? ⟨w.heap.size, 4, none⟩ = some (.int .i64 mi) := by go_simp
    have m5 : ((w.alloc (.cells #[.int .i64 y, .int .i64 mo, .int .i64 d, .int .i64 h, .int .i64 mi, .int .i64 se, .int .i64 z] 23)).drewN nq).cell? ⟨w.heap.size, 5, none⟩ = some (.int .i64 se) := by go_simp
    have hB : Below w.heap.size w ((w.alloc (.cells #[.int .i64 y, .int .i64 mo, .int .i64 d, .int .i64 h, .int .i64 mi, .int .i64 se, .int .i64 z] 23)).drewN nq) := pw_below_drewN (below_alloc (Below.refl _ w) _) nq
    generalize (w.alloc (.cells #[.int .i64 y, .int .i64 mo, .int .i64 d, .int .i64 h, .int .i64 mi, .int .i64 se, .int .i64 z] 23)).drewN nq = w1 at *
    have HB := Lib.hid hB
    clear hB
    have hq1 : z.tdiv 60 = z / 60 := Int.tdiv_eq_ediv_of_nonneg z0
    have hq2 : z.tmod 60 = z % 60 := Int.tmod_eq_emod_of_nonneg z0
    have hq3 : IntKind.i64.wrap (z / 60) = z / 60 := IntWalk.i64_in _ ⟨by omega, by omega⟩
    have hq4 : IntKind.i64.wrap (z % 60) = z % 60 := IntWalk.i64_in _ ⟨by omega, by omega⟩
    go_region_held3 (fun w' => w'.cell? ⟨w.heap.size, 3, none⟩ = some (.int .i64 h) ∧ w'.cell? ⟨w.heap.size, 4, none⟩ = some (.int .i64 mi) ∧ w'.cell? ⟨w.heap.size, 5, none⟩ = some (.int .i64 se)) (go_keep) ((first | (go_at_call 87; (with_reducible refine (T1.out _).mono ?_); rintro e w2 ⟨rfl, hb⟩; have n0_ := Lib.hid (below_step (by repeat (first | (with_reducible exact HB.out) | (with_reducible apply below_drew) | (with_reducible apply pw_below_drewN) | exact HB.out)) hb); clear HB; have HB := n0_; clear n0_; have k3 := pw_cell_below hb (a := ⟨w.heap.size, 3, none⟩) (v := .int .i64 h) (by first | assumption | go_simp); have k4 := pw_cell_below hb (a := ⟨w.heap.size, 4, none⟩) (v := .int .i64 mi) (by first | assumption | go_simp); have k5 := pw_cell_below hb (a := ⟨w.heap.size, 5, none⟩) (v := .int .i64 se) (by first | assumption | go_simp); clear hb) | (go_at_call 87; (with_reducible refine (T2.out _).mono ?_); rintro e w3 ⟨rfl, hb⟩; have n0_ := Lib.hid (below_step (by repeat (first | (with_reducible exact HB.out) | (with_reducible apply below_drew) | (with_reducible apply pw_below_drewN) | exact HB.out)) hb); clear HB; have HB := n0_; clear n0_; have k3 := pw_cell_below hb (a := ⟨w.heap.size, 3, none⟩) (v := .int .i64 h) (by first | assumption | go_simp); have k4 := pw_cell_below hb (a := ⟨w.heap.size, 4, none⟩) (v := .int .i64 mi) (by first | assumption | go_simp); have k5 := pw_cell_below hb (a := ⟨w.heap.size, 5, none⟩) (v := .int .i64 se) (by first | assumption | go_simp); clear hb) | (go_at_call 87; (with_reducible refine (T3.out _).mono ?_); rintro e w4 ⟨rfl, hb⟩; have n0_ := Lib.hid (below_step (by repeat (first | (with_reducible exact HB.out) | (with_reducible apply below_drew) | (with_reducible apply pw_below_drewN) | exact HB.out)) hb); clear HB; have HB := n0_; clear n0_; have k3 := pw_cell_below hb (a := ⟨w.heap.size, 3, none⟩) (v := .int .i64 h) (by first | assumption | go_simp); have k4 := pw_cell_below hb (a := ⟨w.heap.size, 4, none⟩) (v := .int .i64 mi) (by first | assumption | go_simp); have k5 := pw_cell_below hb (a := ⟨w.heap.size, 5, none⟩) (v := .int .i64 se) (by first | assumption | go_simp); clear hb) | (go_at_call 87; (with_reducible refine (T4.out _).mono ?_); rintro e w5 ⟨rfl, hb⟩; have n0_ := Lib.hid (below_step (by repeat (first | (with_reducible exact HB.out) | (with_reducible apply below_drew) | (with_reducible apply pw_below_drewN) | exact HB.out)) hb); clear HB; have HB := n0_; clear n0_; have k3 := pw_cell_below hb (a := ⟨w.heap.size, 3, none⟩) (v := .int .i64 h) (by first | assumption | go_simp); have k4 := pw_cell_below hb (a := ⟨w.heap.size, 4, none⟩) (v := .int .i64 mi) (by first | assumption | go_simp); have k5 := pw_cell_below hb (a := ⟨w.heap.size, 5, none⟩) (v := .int .i64 se) (by first | assumption | go_simp); clear hb) | (go_at_call 87; (with_reducible refine (T5.out _).mono ?_); rintro e w6 ⟨rfl, hb⟩; have n0_ := Lib.hid (below_step (by repeat (first | (with_reducible exact HB.out) | (with_reducible apply below_drew) | (with_reducible apply pw_below_drewN) | exact HB.out)) hb); clear HB; have HB := n0_; clear n0_; have k3 := pw_cell_below hb (a := ⟨w.heap.size, 3, none⟩) (v := .int .i64 h) (by first | assumption | go_simp); have k4 := pw_cell_below hb (a := ⟨w.heap.size, 4, none⟩) (v := .int .i64 mi) (by first | assumption | go_simp); have k5 := pw_cell_below hb (a := ⟨w.heap.size, 5, none⟩) (v := .int .i64 se) (by first | assumption | go_simp); clear hb)))
    all_goals go_wp2
    all_goals go_ret
    all_goals exact ⟨by rw [HP.out]; rfl, HB.out⟩
def moment_clock.f (_y _mo _d h mi se z : Int) : Option ByteArray := if -1439 ≤ z ∧ z ≤ 1439 then some (clockP h mi se z) else none
theorem moment_clock.calls (a0_0 a0_1 a0_2 a0_3 a0_4 a0_5 a0_6 : Int) (r : ByteArray) (w : World) (h : moment_clock.f a0_0 a0_1 a0_2 a0_3 a0_4 a0_5 a0_6 = some r) :
    Calls Tryd.prog 64 #[.agg #[.int .i64 a0_0, .int .i64 a0_1, .int .i64 a0_2, .int .i64 a0_3, .int .i64 a0_4, .int .i64 a0_5, .int .i64 a0_6]] w fun e w' => e = .returned (.string r) ∧ Below w.heap.size w w' := by
  unfold moment_clock.f at h
  by_cases hz : -1439 ≤ a0_6 ∧ a0_6 ≤ 1439
  · rw [if_pos hz] at h
    obtain rfl := Option.some.inj h
    exact clock_calls _ _ _ _ _ _ _ w hz.1 hz.2
  · rw [if_neg hz] at h
    exact absurd h (by simp)
end Go.Proofs.YtjlchnmpebdggaaDoor.Mo
end
