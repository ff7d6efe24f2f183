import Derived.Test.YtjlchnmpebdggaaDoorGap5
import Derived.Test.YtjlchnmpebdggaaDoorGap1
import Derived.Test.YtjlchnmpebdggaaDoorGap3
import Derived.Test.YtjlchnmpebdggaaDoorGap2
import Derived.Test.YtjlchnmpebdggaaDoorGap4
import Derived.Deep.RegionHeld3
import Derived.Test.YtjlchnmpebdggaaDoorRows
import Derived.ProofKit
import Derived.LaidMore
import Derived.OpenShut
import Derived.Stop.Joined
section
namespace Go.Proofs.YtjlchnmpebdggaaDoor.Mo
open Go.RowKit Go.Proofs.YtjlchnmpebdggaaDoorW.PrintWords
theorem g_let (s : ByteArray) (i : Nat) (sp : List UInt8) (t : ByteArray) (c : UInt8) (p r : List UInt8) (hi : i ≤ s.size) (hsp : Sk 0 0 sp) (ht : t.data.toList = c :: p) (hd : s.data.toList.drop i = sp ++ (c :: p ++ r)) (ha : (c :: p).all isLet = true) (hr : ∀ c r', r = c :: r' → isLet c = false) :
    ∃ j, nextP s i = (j, 1, t) ∧ s.data.toList.drop j = r ∧ j ≤ s.size := by
  rw [List.all_cons, Bool.and_eq_true] at ha
  have := next_gap s i sp c p r 1 hi hsp hd (let_facts ha.1).1 (let_facts ha.1).2.1 (fun f h => piece_let h ha.1 ha.2 hr)
  rwa [text_eq ht] at this
theorem g_dig (s : ByteArray) (i : Nat) (sp : List UInt8) (t : ByteArray) (c : UInt8) (p r : List UInt8) (hi : i ≤ s.size) (hsp : Sk 0 0 sp) (ht : t.data.toList = c :: p) (hd : s.data.toList.drop i = sp ++ (c :: p ++ r)) (ha : (c :: p).all isDig = true) (hr : ∀ c r', r = c :: r' → isDig c = false) :
    ∃ j, nextP s i = (j, 2, t) ∧ s.data.toList.drop j = r ∧ j ≤ s.size := by
  rw [List.all_cons, Bool.and_eq_true] at ha
  have := next_gap s i sp c p r 2 hi hsp hd (dig_facts ha.1).1 (dig_facts ha.1).2.1 (fun f h => piece_dig h (dig_facts ha.1).2.2 ha.1 ha.2 hr)
  rwa [text_eq ht] at this
theorem g_colon (s : ByteArray) (i : Nat) (sp r : List UInt8) (hi : i ≤ s.size) (hsp : Sk 0 0 sp) (hd : s.data.toList.drop i = sp ++ (58 :: [] ++ r)) : ∃ j, nextP s i = (j, 5, ⟨#[58]⟩) ∧ s.data.toList.drop j = r ∧ j ≤ s.size :=
  next_gap s i sp 58 [] r 5 hi hsp hd (by decide) (by decide) (fun _ h => piece_colon h)
theorem g_comma (s : ByteArray) (i : Nat) (sp r : List UInt8) (hi : i ≤ s.size) (hsp : Sk 0 0 sp) (hd : s.data.toList.drop i = sp ++ (44 :: [] ++ r)) : ∃ j, nextP s i = (j, 4, ⟨#[44]⟩) ∧ s.data.toList.drop j = r ∧ j ≤ s.size :=
  next_gap s i sp 44 [] r 4 hi hsp hd (by decide) (by decide) (fun _ h => piece_comma h)
theorem g_sign (s : ByteArray) (i : Nat) (sp : List UInt8) (t : ByteArray) (c : UInt8) (p r : List UInt8) (hi : i ≤ s.size) (hsp : Sk 0 0 sp) (ht : t.data.toList = c :: p) (hd : s.data.toList.drop i = sp ++ (c :: p ++ r)) (hc : c = 43 ∨ c = 45) (ha : p.all isDig = true) (hp1 : 1 ≤ p.length) (hr : ∀ c r', r = c :: r' → isDig c = false) :
    ∃ j, nextP s i = (j, 3, t) ∧ s.data.toList.drop j = r ∧ j ≤ s.size := by
  have n1 : isBlank c = false ∧ c.toNat ≠ 40 := by rcases hc with rfl | rfl <;> decide
  have := next_gap s i sp c p r 3 hi hsp hd n1.1 n1.2 (fun f h => piece_sign h hc ha hp1 hr)
  rwa [text_eq ht] at this
theorem gap_dig {g : List UInt8} (h : GapOk g) (q : List UInt8) : ∀ c r', g ++ q = c :: r' → isDig c = false := by
  obtain ⟨_, c, r, rfl, h1, _⟩ := h
  exact head_not h1
theorem gap_let {g : List UInt8} (h : GapOk g) (q : List UInt8) : ∀ c r', g ++ q = c :: r' → isLet c = false := by
  obtain ⟨_, c, r, rfl, _, h1⟩ := h
  exact head_not h1
theorem g_end (s : ByteArray) (i : Nat) (sp : List UInt8) (hi : i ≤ s.size) (hsp : Sk 0 0 sp) (e : List UInt8) (he : e = [] ∨ e = [40, 120]) (hd : s.data.toList.drop i = sp ++ e) : (nextP s i).2.1 = 0 := by
  have hl := toList_len s
  have hlen : sp.length + e.length = s.data.toList.length - i := by
    have := congrArg List.length hd
    rw [List.length_drop, List.length_append] at this
    omega
  have h0 : blanksL e 0 = e.length := by rcases he with rfl | rfl <;> decide
  have hbl : blankP s.data.toList i = s.size := by
    unfold blankP
    rw [hd, hsp, h0]
    omega
  unfold nextP
  simp only
  rw [if_pos hbl]
theorem sh_two (j : Nat) (t : ByteArray) (n most : Int) (h1 : digitsP t = (n, true)) (h2 : t.size ≤ 2) (h3 : n ≤ most) : shortP most (j, 2, t) = (n, true) := by
  unfold shortP
  simp only [h1]
  rw [decide_eq_true h2, decide_eq_true h3]
  rfl
theorem gaps_end (T : ByteArray) (hsize : T.size ≤ 140737488351232) (y m d h mi s z : Int) (hv : validB y m d h mi s z = true) (g e : List UInt8) (hg : GapOk g) (he : e = [] ∨ e = [40, 120] ∨ e = [120]) (i11 : Nat) (s11 : i11 ≤ T.size)
    (q9 : hq9 T = (i11, 3, signB z ++ twoP (absZ z / 60) ++ twoP (absZ z % 60))) (D11 : T.data.toList.drop i11 = g ++ e)
    (v1 : weekP T (hq1 T) = true) (v2 : shortP 99 (hq2 T) = (d, true)) (v3 : monthP (hq3 T) = (m, true)) (v4 : yearP (hq4 T) = (y, true)) (v5 : shortP 23 (hq5 T) = (h, true)) (v6 : (hq6 T).2.1 = 5) (v7 : shortP 59 (hq7 T) = (mi, true)) (v8 : secondP T (hq8 T) = (s, true)) :
    (e ≠ [120] → moment_ReadHeader.f T = some (y, m, d, h, mi, s, z, 0)) ∧ (e = [120] → moment_ReadHeader.f T = some (0, 0, 0, 0, 0, 0, 0, 20)) := by
  obtain ⟨hd, ht⟩ := (valid_iff _ _ _ _ _ _ _).1 hv
  obtain ⟨b1, b2, b3, b4, b5, b6, b7, b8⟩ := (time_iff _ _ _ _).1 ht
  have v9 : zoneCP (hq9 T) = (z, true) := by unfold zoneCP; rw [if_pos (by rw [q9]), q9]; exact zone_back z b7 b8
  have q10 : hq10 T = nextP T i11 := by unfold hq10 zoneCS; rw [if_pos (by rw [q9]; exact .inl rfl), q9]; rfl
  constructor
  · intro hne
    have e12 := g_end T i11 g s11 hg.1 e (by rcases he with h | h | h; exact .inl h; exact .inr h; exact absurd h hne) D11
    have hok : headOk T = true := by
      unfold headOk headB
      rw [v1, v2, v3, v4, v5, v7, v8, v9, v6, q10, e12]
      rfl
    unfold moment_ReadHeader.f
    rw [if_pos hsize, v4, v3, v2, v5, v7, v8, v9, hok, read_f]
    unfold toldP
    simp only
    rw [if_pos (by first | rfl | trivial), if_pos hd]
  · intro hx
    subst hx
    obtain ⟨j, e12, _, _⟩ := g_let T i11 g ⟨#[120]⟩ 120 [] [] s11 hg.1 rfl D11 (by decide) (fun _ _ e => by cases e)
    have hok : headOk T = false := by
      unfold headOk
      rw [q10, e12, Bool.and_eq_false_iff]
      right
      rfl
    unfold moment_ReadHeader.f
    rw [if_pos hsize, hok]
    rw [read_f]
    unfold toldP
    first | rfl | (rw [if_neg (by decide)])
theorem gaps_mid (T : ByteArray) (hsize : T.size ≤ 140737488351232) (y m d h mi s z : Int) (hv : validB y m d h mi s z = true) (sec : Bool) (hs0 : sec = false → s = 0) (g3 g4 g5 g6 g7 g8 g9 g10 e : List UInt8)
    (h3 : GapOk g3) (h4 : GapOk g4) (h5 : GapOk g5) (h6 : GapOk g6) (h7 : GapOk g7) (h8 : GapOk g8) (h9 : GapOk g9) (h10 : GapOk g10) (he : e = [] ∨ e = [40, 120] ∨ e = [120]) (i3 : Nat) (s3 : i3 ≤ T.size)
    (v1 : weekP T (hq1 T) = true) (q2 : hq2 T = (i3, 2, twoP d))
    (D3 : T.data.toList.drop i3 = g3 ++ ((monthL.getD (m - 1).toNat ⟨#[]⟩).data.toList ++ (g4 ++ ((fourP y).data.toList ++ (g5 ++ ((twoP h).data.toList ++ (g6 ++ (58 :: [] ++ (g7 ++ ((twoP mi).data.toList ++ ((if sec = true then g8 ++ (58 :: [] ++ (twoP s).data.toList) else []) ++ (g9 ++ ((signB z ++ twoP (absZ z / 60) ++ twoP (absZ z % 60)).data.toList ++ (g10 ++ e)))))))))))))) :
    (e ≠ [120] → moment_ReadHeader.f T = some (y, m, d, h, mi, s, z, 0)) ∧ (e = [120] → moment_ReadHeader.f T = some (0, 0, 0, 0, 0, 0, 0, 20)) := by
  obtain ⟨hd, ht⟩ := (valid_iff _ _ _ _ _ _ _).1 hv
  obtain ⟨a1, a2, a3, a4, a5, a6⟩ := (isDay_iff _ _ _).1 hd
  obtain ⟨b1, b2, b3, b4, b5, b6, b7, b8⟩ := (time_iff _ _ _ _).1 ht
  have hlr := length_range y m a3 a4
  obtain ⟨ma, mb, mc, hm, hml, hmp⟩ := month_facts (m - 1).toNat (by omega)
  have r0 : 0 ≤ absZ z ∧ absZ z ≤ 1439 := by unfold absZ; split <;> omega
  have l1 := two_list (absZ z / 60) (by omega) (by omega)
  have l2 := two_list (absZ z % 60) (by omega) (by omega)
  have l3 := two_list h b1 (by omega)
  have l4 := two_list mi b3 (by omega)
  have l5 := two_list s b5 (by omega)
  have l6 := four_list y (by omega) a2
  have hsg : (signB z).data.toList = [if z < 0 then 45 else 43] := by unfold signB; split <;> rfl
  have hz5 : (signB z ++ twoP (absZ z / 60) ++ twoP (absZ z % 60)).data.toList = (if z < 0 then 45 else 43) :: [dgB (absZ z / 60 / 10), dgB (absZ z / 60 % 10), dgB (absZ z % 60 / 10), dgB (absZ z % 60 % 10)] := by
    rw [app_list, app_list, l1, l2, hsg]; rfl
  have d9 : ∀ x : Int, 0 ≤ x → x ≤ 9 → isDig (dgB x) = true := dgB_dig
  rw [hz5, l3, l4, l5, l6, hm] at D3
  obtain ⟨i4, e4, D4, s4⟩ := g_let T i3 g3 (monthL.getD (m - 1).toNat ⟨#[]⟩) ma [mb, mc] _ s3 h3.1 hm D3 hml (gap_let h4 _)
  obtain ⟨i5, e5, D5, s5⟩ := g_dig T i4 g4 (fourP y) _ _ _ s4 h4.1 l6 D4 (by simp only [List.all_cons, List.all_nil, Bool.and_true, Bool.and_eq_true]; exact ⟨d9 _ (by omega) (by omega), d9 _ (by omega) (by omega), d9 _ (by omega) (by omega), d9 _ (by omega) (by omega)⟩) (gap_dig h5 _)
  obtain ⟨i6, e6, D6, s6⟩ := g_dig T i5 g5 (twoP h) _ _ _ s5 h5.1 l3 D5 (by simp only [List.all_cons, List.all_nil, Bool.and_true, Bool.and_eq_true]; exact ⟨d9 _ (by omega) (by omega), d9 _ (by omega) (by omega)⟩) (gap_dig h6 _)
  obtain ⟨i7, e7, D7, s7⟩ := g_colon T i6 g6 _ s6 h6.1 D6
  have hmin : ∀ c r', ((if sec = true then g8 ++ (58 :: [] ++ dgB (s / 10) :: [dgB (s % 10)]) else []) ++ (g9 ++ ((if z < 0 then 45 else 43) :: [dgB (absZ z / 60 / 10), dgB (absZ z / 60 % 10), dgB (absZ z % 60 / 10), dgB (absZ z % 60 % 10)] ++ (g10 ++ e)))) = c :: r' → isDig c = false := by
    cases sec with
    | true => rw [if_pos rfl, List.append_assoc]; exact gap_dig h8 _
    | false => rw [if_neg (by decide), List.nil_append]; exact gap_dig h9 _
  obtain ⟨i8, e8, D8, s8⟩ := g_dig T i7 g7 (twoP mi) _ _ _ s7 h7.1 l4 D7 (by simp only [List.all_cons, List.all_nil, Bool.and_true, Bool.and_eq_true]; exact ⟨d9 _ (by omega) (by omega), d9 _ (by omega) (by omega)⟩) hmin
  have q3 : hq3 T = (i4, 1, monthL.getD (m - 1).toNat ⟨#[]⟩) := by unfold hq3; rw [q2]; exact e4
  have q4 : hq4 T = (i5, 2, fourP y) := by unfold hq4; rw [q3]; exact e5
  have q5 : hq5 T = (i6, 2, twoP h) := by unfold hq5; rw [q4]; exact e6
  have q6 : hq6 T = (i7, 5, ⟨#[58]⟩) := by unfold hq6; rw [q5]; exact e7
  have q7 : hq7 T = (i8, 2, twoP mi) := by unfold hq7; rw [q6]; exact e8
  have v2 : shortP 99 (hq2 T) = (d, true) := by rw [q2]; exact sh_two _ _ _ _ (digits_two d (by omega) (by omega)) (by rw [twoP_size]; exact Nat.le_refl _) (by omega)
  have v3 : monthP (hq3 T) = (m, true) := by
    unfold monthP
    rw [if_pos (by rw [q3]), q3]
    simp only
    rw [hmp, decide_eq_true (by omega)]
    simp only [Prod.mk.injEq, and_true]
    omega
  have v4 : yearP (hq4 T) = (y, true) := by
    unfold yearP
    rw [q4]
    simp only [digits_four y (by omega) a2, fourP_size]
    simp
  have v5 : shortP 23 (hq5 T) = (h, true) := by rw [q5]; exact sh_two _ _ _ _ (digits_two h b1 (by omega)) (by rw [twoP_size]; exact Nat.le_refl _) b2
  have v7 : shortP 59 (hq7 T) = (mi, true) := by rw [q7]; exact sh_two _ _ _ _ (digits_two mi b3 (by omega)) (by rw [twoP_size]; exact Nat.le_refl _) b4
  have v6 : (hq6 T).2.1 = 5 := by rw [q6]
  have hpl : 1 ≤ [dgB (absZ z / 60 / 10), dgB (absZ z / 60 % 10), dgB (absZ z % 60 / 10), dgB (absZ z % 60 % 10)].length := by simp
  have hpd : [dgB (absZ z / 60 / 10), dgB (absZ z / 60 % 10), dgB (absZ z % 60 / 10), dgB (absZ z % 60 % 10)].all isDig = true := by
    simp only [List.all_cons, List.all_nil, Bool.and_true, Bool.and_eq_true]; exact ⟨d9 _ (by omega) (by omega), d9 _ (by omega) (by omega), d9 _ (by omega) (by omega), d9 _ (by omega) (by omega)⟩
  have hsgn : ((if z < 0 then 45 else 43) : UInt8) = 43 ∨ ((if z < 0 then 45 else 43) : UInt8) = 45 := by split <;> simp
  cases sec with
  | false =>
    rw [if_neg (by decide), List.nil_append] at D8
    have hs := hs0 rfl
    obtain ⟨i9, e9, D9, s9⟩ := g_sign T i8 g9 (signB z ++ twoP (absZ z / 60) ++ twoP (absZ z % 60)) _ _ _ s8 h9.1 hz5 D8 hsgn hpd hpl (gap_dig h10 _)
    have q8 : hq8 T = (i9, 3, signB z ++ twoP (absZ z / 60) ++ twoP (absZ z % 60)) := by unfold hq8; rw [q7]; exact e9
    have q9 : hq9 T = (i9, 3, signB z ++ twoP (absZ z / 60) ++ twoP (absZ z % 60)) := by unfold hq9 secondS; rw [if_neg (by rw [q8]; simp), q8]
    have v8 : secondP T (hq8 T) = (s, true) := by unfold secondP; rw [if_neg (by rw [q8]; simp), hs]
    exact gaps_end T hsize y m d h mi s z hv g10 e h10 he i9 s9 q9 D9 v1 v2 v3 v4 v5 v6 v7 v8
  | true =>
    rw [if_pos rfl, List.append_assoc, List.append_assoc] at D8
    obtain ⟨i9, e9, D9, s9⟩ := g_colon T i8 g8 _ s8 h8.1 D8
    obtain ⟨i10, e10, D10, s10⟩ := g_dig T i9 [] (twoP s) _ _ _ s9 (sk_nil 0) l5 D9 (by simp only [List.all_cons, List.all_nil, Bool.and_true, Bool.and_eq_true]; exact ⟨d9 _ (by omega) (by omega), d9 _ (by omega) (by omega)⟩) (gap_dig h9 _)
    obtain ⟨i11, e11, D11, s11⟩ := g_sign T i10 g9 (signB z ++ twoP (absZ z / 60) ++ twoP (absZ z % 60)) _ _ _ s10 h9.1 hz5 D10 hsgn hpd hpl (gap_dig h10 _)
    have q8 : hq8 T = (i9, 5, ⟨#[58]⟩) := by unfold hq8; rw [q7]; exact e9
    have n8 : nx T (hq8 T) = (i10, 2, twoP s) := by rw [q8]; exact e10
    have q9 : hq9 T = (i11, 3, signB z ++ twoP (absZ z / 60) ++ twoP (absZ z % 60)) := by unfold hq9 secondS; rw [if_pos (by rw [q8]), n8]; exact e11
    have v8 : secondP T (hq8 T) = (s, true) := by
      have := sh_two i10 (twoP s) s 60 (digits_two s b5 (by omega)) (by rw [twoP_size]; exact Nat.le_refl _) (by omega)
      unfold secondP
      rw [if_pos (by rw [q8]), n8, this]
      simp only
      rw [if_neg (by omega)]
    exact gaps_end T hsize y m d h mi s z hv g10 e h10 he i11 s11 q9 D11 v1 v2 v3 v4 v5 v6 v7 v8
theorem wed_ok : ((4 : Int) == 4 && decide (0 ≤ placeP (⟨#[119, 69, 68]⟩ : ByteArray) weekL 0)) = true := by simp only [placeP, weekL, ByteArray.toList_eq]; decide
def gapsL (y m d h mi s z : Int) (week sec : Bool) (g : Nat → List UInt8) : List UInt8 :=
  g 0 ++ ((if week = true then 119 :: [69, 68] ++ (g 1 ++ [44]) else []) ++ (g 2 ++ ((twoP d).data.toList ++ (g 3 ++ ((monthL.getD (m - 1).toNat ⟨#[]⟩).data.toList ++ (g 4 ++ ((fourP y).data.toList ++ (g 5 ++ ((twoP h).data.toList ++ (g 6 ++ (58 :: [] ++ (g 7 ++ ((twoP mi).data.toList ++ ((if sec = true then g 8 ++ (58 :: [] ++ (twoP s).data.toList) else []) ++ (g 9 ++ ((signB z ++ twoP (absZ z / 60) ++ twoP (absZ z % 60)).data.toList ++ g 10))))))))))))))))
theorem gaps_back (T : ByteArray) (hsize : T.size ≤ 140737488351232) (y m d h mi s z : Int) (hv : validB y m d h mi s z = true) (week sec : Bool) (hs0 : sec = false → s = 0) (g : Nat → List UInt8) (hg : ∀ n, GapOk (g n)) (e : List UInt8)
    (he : e = [] ∨ e = [40, 120] ∨ e = [120]) (hT : T.data.toList = gapsL y m d h mi s z week sec g ++ e) :
    (e ≠ [120] → moment_ReadHeader.f T = some (y, m, d, h, mi, s, z, 0)) ∧ (e = [120] → moment_ReadHeader.f T = some (0, 0, 0, 0, 0, 0, 0, 20)) := by
  obtain ⟨hd, ht⟩ := (valid_iff _ _ _ _ _ _ _).1 hv
  obtain ⟨a1, a2, a3, a4, a5, a6⟩ := (isDay_iff _ _ _).1 hd
  have hlr := length_range y m a3 a4
  have l0 := two_list d (by omega) (by omega)
  have d9 : ∀ x : Int, 0 ≤ x → x ≤ 9 → isDig (dgB x) = true := dgB_dig
  have D0 : T.data.toList.drop 0 = gapsL y m d h mi s z week sec g ++ e := hT
  have hda : (dgB (d / 10) :: [dgB (d % 10)]).all isDig = true := by simp only [List.all_cons, List.all_nil, Bool.and_true, Bool.and_eq_true]; exact ⟨d9 _ (by omega) (by omega), d9 _ (by omega) (by omega)⟩
  unfold gapsL at D0
  have n0 : nx T (0, 0, ⟨#[]⟩) = nextP T 0 := rfl
  cases week with
  | false =>
    simp only [Bool.false_eq_true, if_false, List.nil_append, List.append_assoc] at D0
    rw [← List.append_assoc, l0] at D0
    obtain ⟨i3, e3, D3, s3⟩ := g_dig T 0 (g 0 ++ g 2) (twoP d) _ _ _ (by omega) (sk_app (hg 0).1 (hg 2).1) l0 D0 hda (gap_dig (hg 3) _)
    have q1 : hq1 T = (i3, 2, twoP d) := e3
    have q2 : hq2 T = (i3, 2, twoP d) := by unfold hq2 weekS; rw [if_neg (by rw [q1]; simp), q1]
    have v1 : weekP T (hq1 T) = true := by unfold weekP; rw [if_neg (by rw [q1]; simp)]
    exact gaps_mid T hsize y m d h mi s z hv sec hs0 _ _ _ _ _ _ _ _ e (hg 3) (hg 4) (hg 5) (hg 6) (hg 7) (hg 8) (hg 9) (hg 10) he i3 s3 v1 q2 D3
  | true =>
    simp only [if_true, List.append_assoc] at D0
    rw [l0] at D0
    obtain ⟨i1, e1, D1, s1⟩ := g_let T 0 (g 0) ⟨#[119, 69, 68]⟩ 119 [69, 68] _ (by omega) (hg 0).1 rfl D0 (by decide) (gap_let (hg 1) _)
    obtain ⟨i2, e2, D2, s2⟩ := g_comma T i1 (g 1) _ s1 (hg 1).1 D1
    obtain ⟨i3, e3, D3, s3⟩ := g_dig T i2 (g 2) (twoP d) _ _ _ s2 (hg 2).1 l0 D2 hda (gap_dig (hg 3) _)
    have q1 : hq1 T = (i1, 1, ⟨#[119, 69, 68]⟩) := e1
    have n1 : nx T (hq1 T) = (i2, 4, ⟨#[44]⟩) := by rw [q1]; exact e2
    have q2 : hq2 T = (i3, 2, twoP d) := by unfold hq2 weekS; rw [if_pos (by rw [q1]), n1]; exact e3
    have v1 : weekP T (hq1 T) = true := by unfold weekP; rw [if_pos (by rw [q1]), n1, q1]; exact wed_ok
    exact gaps_mid T hsize y m d h mi s z hv sec hs0 _ _ _ _ _ _ _ _ e (hg 3) (hg 4) (hg 5) (hg 6) (hg 7) (hg 8) (hg 9) (hg 10) he i3 s3 v1 q2 D3
end Go.Proofs.YtjlchnmpebdggaaDoor.Mo
end
section
namespace Go.Proofs.YtjlchnmpebdggaaDoor.Mo
open Go.RowKit Go.Proofs.YtjlchnmpebdggaaDoorW.PrintWords
def natL (l : List UInt8) : List Int := l.map fun c => (c.toNat : Int)
theorem natL_app (l m : List UInt8) : natL (l ++ m) = natL l ++ natL m := List.map_append
theorem natL_len (l : List UInt8) : (natL l).length = l.length := List.length_map _
theorem escs_len : ∀ l, (escsL l).length ≤ 2 * l.length
  | [] => Nat.le_refl _
  | x :: l => by
    have := escs_len l
    have h2 : (escL x).length ≤ 2 := by unfold escL; split <;> simp
    rw [escsL, List.length_append, List.length_cons]
    omega
theorem escs_snoc (l : List UInt8) (x : UInt8) : escsL (l ++ [x]) = escsL l ++ escL x := by
  induction l with
  | nil => simp [escsL]
  | cons y l ih => rw [List.cons_append, escsL, ih, escsL, List.append_assoc]
theorem inside_step (k : Nat) (x0 : ByteArray) (x3 : List Int) (x4 : Int) : postbaglaw2_inside.l0 (k + 1) x0 x3 x4 = if x4 < (x0.size : Int) then (postbaglaw2_inside.j1 k x0 x3 x4 (decide (x4 < 200))) else (postbaglaw2_inside.j1 k x0 x3 x4 false) := by rw [postbaglaw2_inside.l0]
theorem inside_stop (k : Nat) (x0 : ByteArray) (x3 : List Int) (x4 : Int) (h : x3.length < 140737488355328) : postbaglaw2_inside.j1 (k + 1) x0 x3 x4 false = some (strOfNums (x3 ++ [41])) := by rw [postbaglaw2_inside.j1, if_neg (by decide), if_pos h]
theorem inside_more (k : Nat) (x0 : ByteArray) (x3 : List Int) (i : Nat) (c : UInt8) (hi : i < 1000) (hs : (i : Int) < (x0.size : Int)) (h : x3.length < 100000) (hc : bt x0 (i : Int) = (c.toNat : Int)) :
    postbaglaw2_inside.j1 (k + 1) x0 x3 (i : Int) true = postbaglaw2_inside.l0 k x0 (x3 ++ natL (escL c)) ((i + 1 : Nat) : Int) := by
  have W := Lib.hid (show wrap64 ((i : Int) + 1) = ((i + 1 : Nat) : Int) from by rw [w64 _ (by omega) (by omega)]; omega)
  rw [postbaglaw2_inside.j1, if_pos rfl, if_pos (by omega), if_pos hs, hc, W.out, Option.bind_some]
  have hl : (x3 ++ [92]).length < 140737488355328 := by rw [List.length_append, List.length_singleton]; omega
  unfold escL
  have h2 : natL [92, c] = [92, (c.toNat : Int)] := rfl
  have h1 : natL [c] = [(c.toNat : Int)] := rfl
  by_cases e1 : c.toNat = 40
  · rw [if_pos (by omega), if_pos (by omega), if_pos hl, if_pos (.inl e1), h2, List.append_assoc]; rfl
  · rw [if_neg (by omega)]
    by_cases e2 : c.toNat = 41
    · rw [if_pos (by omega), if_pos (by omega), if_pos hl, if_pos (.inr (.inl e2)), h2, List.append_assoc]; rfl
    · rw [if_neg (by omega)]
      by_cases e3 : c.toNat = 92
      · rw [if_pos (by omega), if_pos (by omega), if_pos hl, if_pos (.inr (.inr e3)), h2, List.append_assoc]; rfl
      · rw [if_neg (by omega), if_pos (by omega), if_neg (by omega), h1]
theorem inside_l0 (s : ByteArray) (hs : s.size ≤ 140737488351232) (d : Nat) : ∀ (k i : Nat), i ≤ 200 → i ≤ s.size → min 200 s.size - i = d → 2 * d + 2 ≤ k →
    postbaglaw2_inside.l0 k s (natL (40 :: escsL (s.data.toList.take i))) (i : Int) = some (strOfNums (natL (insideL s.data.toList))) := by
  have hl := toList_len s
  induction d with
  | zero =>
    intro k i hi hi2 hd hk
    obtain ⟨k, rfl⟩ : ∃ m, k = m + 2 := ⟨k - 2, by omega⟩
    have he := escs_len (s.data.toList.take i)
    have hlen : (natL (40 :: escsL (s.data.toList.take i))).length < 140737488355328 := by
      rw [natL_len, List.length_cons]; rw [List.length_take] at he; omega
    have htake : s.data.toList.take i = s.data.toList.take 200 := by
      by_cases h : 200 ≤ s.size
      · rw [show i = 200 by omega]
      · rw [List.take_of_length_le (by omega), List.take_of_length_le (by omega)]
    have hend : strOfNums (natL (40 :: escsL (s.data.toList.take i)) ++ [41]) = strOfNums (natL (insideL s.data.toList)) := by
      rw [htake]
      unfold insideL
      rw [show natL ([40] ++ (escsL (s.data.toList.take 200) ++ [41])) = natL (40 :: escsL (s.data.toList.take 200)) ++ [41] by rw [← List.append_assoc, natL_app]; rfl]
    rw [inside_step]
    by_cases h : (i : Int) < (s.size : Int)
    · rw [if_pos h, decide_eq_false (by omega), inside_stop _ _ _ _ hlen, hend]
    · rw [if_neg h, inside_stop _ _ _ _ hlen, hend]
  | succ d ih =>
    intro k i hi hi2 hd hk
    obtain ⟨k, rfl⟩ : ∃ m, k = m + 2 := ⟨k - 2, by omega⟩
    have hlt : i < s.data.toList.length := by omega
    have he := escs_len (s.data.toList.take i)
    rw [List.length_take] at he
    rw [inside_step, if_pos (by omega), decide_eq_true (by omega), inside_more k s _ i s.data.toList[i] (by omega) (by omega) (by rw [natL_len, List.length_cons]; omega) (bt_get s i hlt)]
    have := ih k (i + 1) (by omega) (by omega) (by omega) (by omega)
    rw [← this]
    congr 1
    rw [← natL_app, List.take_succ_eq_append_getElem hlt, escs_snoc, List.cons_append]
def insideB (s : ByteArray) : ByteArray := strOfNums (natL (insideL s.data.toList))
theorem inside_f (k : Nat) (hk : 500 ≤ k) (s : ByteArray) (hs : s.size ≤ 140737488351232) : postbaglaw2_inside.f k s = some (insideB s) := by
  unfold postbaglaw2_inside.f
  have := inside_l0 s hs (min 200 s.size) k 0 (by omega) (by omega) rfl (by omega)
  exact this
theorem inside_list (s : ByteArray) : (insideB s).data.toList = insideL s.data.toList := by
  unfold insideB natL
  rw [strOfNums_data, List.map_map]
  have : ∀ l : List UInt8, l.map ((fun n : Int => UInt8.ofNat n.toNat) ∘ fun c : UInt8 => (c.toNat : Int)) = l := by
    intro l
    induction l with
    | nil => rfl
    | cons c l ih =>
      rw [List.map_cons, ih]
      simp
  exact this _
theorem inside_len (l : List UInt8) : (insideL l).length ≤ 402 := by
  have := escs_len (l.take 200)
  rw [List.length_take] at this
  unfold insideL
  simp only [List.length_append, List.length_cons, List.length_nil]
  omega
theorem inside_size (s : ByteArray) : (insideB s).size ≤ 402 := by
  have := inside_len s.data.toList
  rw [← inside_list, toList_len] at this
  exact this
def gapG (l : List ByteArray) (n : Nat) : List UInt8 := if l.length ≤ n then [32] else gapL (l.getD n ByteArray.empty).data.toList
def gapB (l : List ByteArray) (n : Nat) : ByteArray := ⟨(gapG l n).toArray⟩
theorem gapG_ok (l : List ByteArray) (n : Nat) : GapOk (gapG l n) := by
  unfold gapG
  split
  · exact gap_one
  · exact gap_ok _
theorem gapL_len (l : List UInt8) : (gapL l).length ≤ 900 := by
  have := inside_len l
  have h2 := inside_len []
  unfold gapL
  repeat' split
  all_goals (simp only [List.length_append, List.length_cons, List.length_nil]; omega)
theorem gapB_size (l : List ByteArray) (n : Nat) : (gapB l n).size ≤ 900 := by
  show (gapG l n).toArray.size ≤ 900
  rw [List.size_toArray]
  unfold gapG
  split
  · decide
  · exact gapL_len _
theorem bytes_eq {a : ByteArray} {l : List UInt8} (h : a.data.toList = l) : a = ⟨l.toArray⟩ := by
  apply ByteArray.ext
  apply Array.toList_inj.1
  rw [h]
theorem gap_f (k : Nat) (hk : 500 ≤ k) (l : List ByteArray) (n : Nat) (hl : ∀ x ∈ l, x.size ≤ 140737488351232) : postbaglaw2_gap.f k l (n : Int) = some (gapB l n) := by
  unfold postbaglaw2_gap.f gapB gapG
  by_cases h : l.length ≤ n
  · rw [if_pos (by omega), if_pos h]
  · rw [if_neg (by omega), if_neg h, if_pos (by omega), if_pos (by omega)]
    have hrd : rdOf ByteArray.empty l (n : Int) = l.getD n ByteArray.empty := by unfold rdOf; rw [Int.toNat_natCast]
    have hx : (l.getD n ByteArray.empty).size ≤ 140737488351232 := by
      rw [List.getD_eq_getElem?_getD, List.getElem?_eq_getElem (by omega)]
      exact hl _ (List.getElem_mem _)
    rw [hrd]
    generalize l.getD n ByteArray.empty = s at *
    have hs := toList_len s
    have i1 := inside_size s
    have i2 := inside_list s
    have i3 := inside_size (⟨#[]⟩ : ByteArray)
    have i4 := inside_list (⟨#[]⟩ : ByteArray)
    have e1 : (⟨#[32, 40, 97, 32]⟩ : ByteArray).size = 4 := rfl
    have e2 : (⟨#[32, 32, 9]⟩ : ByteArray).size = 3 := rfl
    rw [inside_f k hk s hx, inside_f k hk (⟨#[]⟩ : ByteArray) (by decide), Option.bind_some, Option.bind_some, Option.bind_some, Option.bind_some]
    unfold gapL
    rw [hs]
    by_cases c0 : s.size % 4 = 0
    · rw [if_pos (by omega), if_pos c0]
    · rw [if_neg (by omega), if_neg c0]
      by_cases c1 : s.size % 4 = 1
      · rw [if_pos (by omega), if_pos c1, if_pos (by omega), if_pos (by rw [ByteArray.size_append]; omega)]
        congr 1
        apply bytes_eq
        rw [app_list, app_list, i2]
        simp
      · rw [if_neg (by omega), if_neg c1]
        by_cases c2 : s.size % 4 = 2
        · rw [if_pos (by omega), if_pos c2, if_pos (by omega)]
          congr 1
          apply bytes_eq
          rw [app_list, i2, i4]
        · rw [if_neg (by omega), if_neg c2, if_pos (by omega), if_pos (by rw [ByteArray.size_append]; omega)]
          congr 1
          apply bytes_eq
          rw [app_list, app_list, i2]
          simp
end Go.Proofs.YtjlchnmpebdggaaDoor.Mo
end
section
-- PRINTED by a driver of print.py
namespace Go.Proofs.YtjlchnmpebdggaaDoor.Mo
open Go.RowKit Go.Proofs.YtjlchnmpebdggaaDoorW.PrintWords Go.Proofs.YtjlchnmpebdggaaDoorW.PrintLast Go.Proofs.YtjlchnmpebdggaaDoorW.PrintMore
attribute [local go_sem] max2_int min2_int max_two min_two max_three min_three max_four min_four   -- for this text's walks alone
set_option linter.unusedVariables false
set_option linter.unusedSimpArgs false
def moment_PrintDay.f (a0_0 : Int) (a0_1 : Int) (a0_2 : Int) (a0_3 : Int) (a0_4 : Int) (a0_5 : Int) (a0_6 : Int) : Option (ByteArray × Int) := (moment_isDay.f a0_0 a0_1 a0_2 a0_3 a0_4 a0_5 a0_6).bind fun t469 => (if t469 = true then ((moment_plain.f a0_2).bind fun t470 => ((moment_dashed.f a0_0 a0_1 a0_2 a0_3 a0_4 a0_5 a0_6).bind fun t471 => (if t470.size + t471.size ≤ 9223372036854775807 then (some (t470 ++ t471, 0)) else (none)))) else (some ((⟨#[]⟩ : ByteArray), 21)))
def moment_PrintDay.T3 : Bool × List (List Nat × List Nat) := (true, [([], []), ([0], [0]), ([1], [1]), ([], []), ([3, 2], [3]), ([2, 4], [2, 4]), ([5, 4, 0, 1, 2, 3, 4, 5], [5]), ([6, 0, 1, 2, 3, 4, 5, 6], [])])
def moment_PrintDay.B3 : List Nat := [0, 1, 3, 0, 15, 31, 63, 127]
theorem moment_PrintDay.tab3 : rtab .any (opsOf Tryd.f24 3) = moment_PrintDay.T3 := by kernel_rfl
theorem moment_PrintDay.bits3 : waitsOk moment_PrintDay.T3.2 moment_PrintDay.B3 = true := by kernel_rfl
set_option maxHeartbeats 8000000 in
set_option maxRecDepth 100000 in
theorem moment_PrintDay.calls (a0_0 : Int) (a0_1 : Int) (a0_2 : Int) (a0_3 : Int) (a0_4 : Int) (a0_5 : Int) (a0_6 : Int) (r1 : ByteArray) (r2 : Int) (w : World) (h : moment_PrintDay.f a0_0 a0_1 a0_2 a0_3 a0_4 a0_5 a0_6 = some (r1, r2)) (hL_ : Laid w) :
  Calls Tryd.prog 24 #[.agg #[.int .i64 a0_0, .int .i64 a0_1, .int .i64 a0_2, .int .i64 a0_3, .int .i64 a0_4, .int .i64 a0_5, .int .i64 a0_6]] w fun e w' => e = .returned (.tuple #[.string r1, .int .i64 r2]) ∧ Below w.heap.size w w' := by
 have HL_ := Aside0.mk hL_
 clear hL_
 have hu23 := Tryd.underlying23
 have HB := Aside0.mk (Below.refl w.heap.size w)
 have H : ((moment_isDay.f a0_0 a0_1 a0_2 a0_3 a0_4 a0_5 a0_6).bind fun t469 => (if t469 = true then ((moment_plain.f a0_2).bind fun t470 => ((moment_dashed.f a0_0 a0_1 a0_2 a0_3 a0_4 a0_5 a0_6).bind fun t471 => (if t470.size + t471.size ≤ 9223372036854775807 then (some (t470 ++ t471, 0)) else (none)))) else (some ((⟨#[]⟩ : ByteArray), 21)))) = some (r1, r2) := h
 clear h
 replace H := Option.bind_eq_some_iff.mp H
 obtain ⟨t469, A20, H⟩ := H
 replace H : (if t469 = true then ((moment_plain.f a0_2).bind fun t470 => ((moment_dashed.f a0_0 a0_1 a0_2 a0_3 a0_4 a0_5 a0_6).bind fun t471 => (if t470.size + t471.size ≤ 9223372036854775807 then (some (t470 ++ t471, 0)) else (none)))) else (some ((⟨#[]⟩ : ByteArray), 21))) = some (r1, r2) := H
 have A2 := Aside0.mk A20
 clear A20
 by_cases c3 : t469 = true
 ·subst c3
  have H1 : ((moment_plain.f a0_2).bind fun t470 => ((moment_dashed.f a0_0 a0_1 a0_2 a0_3 a0_4 a0_5 a0_6).bind fun t471 => (if t470.size + t471.size ≤ 9223372036854775807 then (some (t470 ++ t471, 0)) else (none)))) = some (r1, r2) := by rw [if_pos rfl] at H; exact H
  clear H
  have H := H1
  clear H1
  replace H := Option.bind_eq_some_iff.mp H
  obtain ⟨t470, A40, H⟩ := H
  replace H : ((moment_dashed.f a0_0 a0_1 a0_2 a0_3 a0_4 a0_5 a0_6).bind fun t471 => (if t470.size + t471.size ≤ 9223372036854775807 then (some (t470 ++ t471, 0)) else (none))) = some (r1, r2) := H
  have A4 := Aside0.mk A40
  clear A40
  replace H := Option.bind_eq_some_iff.mp H
  obtain ⟨t471, A50, H⟩ := H
  replace H : (if t470.size + t471.size ≤ 9223372036854775807 then (some (t470 ++ t471, 0)) else (none)) = some (r1, r2) := H
  have A5 := Aside0.mk A50
  clear A50
  by_cases c6 : t470.size + t471.size ≤ 9223372036854775807
  ·rw [if_pos c6] at H
   have c6b0 := eq_true c6
   have c6b1 : decide (t470.size + t471.size ≤ 9223372036854775807) = true := decide_eq_true c6
   try have c6b2 : (9223372036854775807 < t470.size + t471.size) = False := eq_false (Nat.not_lt.2 c6)
   simp only [Option.some.injEq, Prod.mk.injEq] at H
   obtain ⟨rfl, rfl⟩ := H
   go_enter Tryd.func24, Tryd.ntmps24
   try go_wp2_with (first | ((with_reducible refine gate_dst (N := 1) rfl ?_); refine box_event ?hg (N := 1) ?hd (cs := #[.int .i64 a0_0, .int .i64 a0_1, .int .i64 a0_2, .int .i64 a0_3, .int .i64 a0_4, .int .i64 a0_5, .int .i64 a0_6]) (t := 23) ?hr ?_; (case hd => rfl); (case hg => rfl); (case hr => first | (go_simp; done) | (go_simp; rfl)); intro gb468 hg w7 hbox hb; have n0_ := Aside0.mk (below_step (by repeat (first | (with_reducible first | exact HB.out | apply below_alloc | apply pw_below_drewN | apply below_drew1) | exact HB.out)) hb); have n1_ := Aside0.mk (hbox); have n2_ := Aside0.mk ((by rw [hg]; exact (below_size (by repeat (first | (with_reducible first | exact HB.out | apply below_alloc | apply pw_below_drewN | apply below_drew1) | exact HB.out))) : w.heap.size ≤ gb468)); have n3_ := Aside0.mk ((by rw [hg]; exact (below_size (by repeat (first | (with_reducible first | exact HB.out | apply below_alloc | apply pw_below_drewN | apply below_drew1) | exact HB.out))) : w.heap.size ≤ gb468)); clear HB; have HB := n0_; have BK468 := n1_; have GW468 := n2_; have GE468 := n3_; clear n0_ n1_ n2_ n3_; clear hb hbox hg; have hcz8_0 : w7.cell? ⟨gb468, 0, none⟩ = some (.int .i64 a0_0) := (blk_cell BK468.out 0).trans rfl; have hcz8_1 : w7.cell? ⟨gb468, 1, none⟩ = some (.int .i64 a0_1) := (blk_cell BK468.out 1).trans rfl; have hcz8_2 : w7.cell? ⟨gb468, 2, none⟩ = some (.int .i64 a0_2) := (blk_cell BK468.out 2).trans rfl; have hcz8_3 : w7.cell? ⟨gb468, 3, none⟩ = some (.int .i64 a0_3) := (blk_cell BK468.out 3).trans rfl; have hcz8_4 : w7.cell? ⟨gb468, 4, none⟩ = some (.int .i64 a0_4) := (blk_cell BK468.out 4).trans rfl; have hcz8_5 : w7.cell? ⟨gb468, 5, none⟩ = some (.int .i64 a0_5) := (blk_cell BK468.out 5).trans rfl; have hcz8_6 : w7.cell? ⟨gb468, 6, none⟩ = some (.int .i64 a0_6) := (blk_cell BK468.out 6).trans rfl; have hfz8_0 := blk_frozen BK468.out 0; have hfz8_1 := blk_frozen BK468.out 1; have hfz8_2 := blk_frozen BK468.out 2; have hfz8_3 := blk_frozen BK468.out 3; have hfz8_4 := blk_frozen BK468.out 4; have hfz8_5 := blk_frozen BK468.out 5; have hfz8_6 := blk_frozen BK468.out 6) | ((with_reducible refine gate_callee (f := 46) rfl ?_); refine goesL_ (some 5) rfl rfl Tryd.func46 (by kernel_rfl) rfl #[.agg #[.int .i64 a0_0, .int .i64 a0_1, .int .i64 a0_2, .int .i64 a0_3, .int .i64 a0_4, .int .i64 a0_5, .int .i64 a0_6]] rfl (by (try simp only [List.map_toArray, List.map_cons, List.map_nil]); first | done | rfl) ?_; (with_reducible refine (moment_isDay.calls a0_0 a0_1 a0_2 a0_3 a0_4 a0_5 a0_6 true _ A2.out (by first | exact laid_below HL_.out (by repeat (first | (with_reducible first | exact HB.out | apply below_alloc | apply pw_below_drewN | apply below_drew1) | exact HB.out)) | exact laid_drawn HL_.out (by repeat (first | exact Drawn0.refl _ | apply Drawn0.step)))).mono ?_); rintro e w9 ⟨rfl, hb⟩; refine ⟨_, rfl, ?_⟩; have n0_ := Aside0.mk (blk_below (g := gb468) (o := .cells #[.int .i64 a0_0, .int .i64 a0_1, .int .i64 a0_2, .int .i64 a0_3, .int .i64 a0_4, .int .i64 a0_5, .int .i64 a0_6] 23 (0, 0)) (by (with_reducible repeat first | refine blk_drewN ?_ _ | refine blk_alloc ?_ _); exact BK468.out) hb); have n1_ := Aside0.mk (below_step (by repeat (first | (with_reducible first | exact HB.out | apply below_alloc | apply pw_below_drewN | apply below_drew1 | refine below_set ?_ GE468.out) | exact HB.out)) hb); clear BK468; clear HB; have BK468 := n0_; have HB := n1_; clear n0_ n1_; (try clear hb); (try clear hb2); (try clear hk); (try clear hi)))
   have n0_ := Aside0.mk (blk_drew BK468.out)
   have n1_ := Aside0.mk (below_drew1 HB.out)
   clear BK468
   clear HB
   have BK468 := n0_
   have HB := n1_
   clear n0_ n1_
   refine start_ (n := 8) (S := fun w' => w'.cell? ⟨gb468, 0, none⟩ = some (.int .i64 a0_0) ∧ w'.cell? ⟨gb468, 1, none⟩ = some (.int .i64 a0_1) ∧ w'.cell? ⟨gb468, 2, none⟩ = some (.int .i64 a0_2) ∧ w'.cell? ⟨gb468, 3, none⟩ = some (.int .i64 a0_3) ∧ w'.cell? ⟨gb468, 4, none⟩ = some (.int .i64 a0_4) ∧ w'.cell? ⟨gb468, 5, none⟩ = some (.int .i64 a0_5) ∧ w'.cell? ⟨gb468, 6, none⟩ = some (.int .i64 a0_6)) (ds := []) (bs_ 0 8) (by kernel_rfl) rfl rfl ⟨(blk_cell BK468.out 0).trans rfl, (blk_cell BK468.out 1).trans rfl, (blk_cell BK468.out 2).trans rfl, (blk_cell BK468.out 3).trans rfl, (blk_cell BK468.out 4).trans rfl, (blk_cell BK468.out 5).trans rfl, (blk_cell BK468.out 6).trans rfl⟩ (fun hHeld => ?_); refine with_tabW moment_PrintDay.tab3 moment_PrintDay.bits3 (fun HT_ HW_ => ?_)
   generalize w9.drew = w10 at BK468 HB hHeld ⊢
   refine pu_ 0 (some 7) ?_ (bs_ 1 7) rfl rfl (any_of HT_.out (by kernel_rfl)) (fun _ _ _ h => h) (y_ (by rfl) ?_) ?_ ?_ ?_
   rotate_left
   ·intro w'
    go_simp
    with_reducible rfl
   rotate_left
   ·simp only [Act.put, s1_, s2_, s3_, i64_w, i32_w]
    rfl
   refine take_ (i := 1) (N := some 8) (v := ?_) (a' := ?_) (bs_ 2 6) rfl rfl (take_ofW HT_.out HW_.out (by kernel_rfl)) (fun _ _ _ h => h) (Or.inl ⟨by rfl, ?_⟩) hHeld ?_ ?_
   rotate_left
   ·rintro w' ⟨s0, s1, s2, s3, s4, s5, s6⟩
    go_simp
    with_reducible rfl
   rotate_left
   ·simp only [Act.put, s1_, s2_, s3_, i64_w, i32_w]
    rfl
   refine take_ (i := 3) (N := some 10) (v := ?_) (a' := ?_) #[true, true, false, true, false, false, false, false] rfl rfl (take_ofW HT_.out HW_.out (by kernel_rfl)) (fun _ _ _ h => h) (Or.inl ⟨by rfl, ?_⟩) hHeld ?_ ?_
   rotate_left
   ·rintro w' ⟨s0, s1, s2, s3, s4, s5, s6⟩
    go_simp
    with_reducible rfl
   rotate_left
   ·simp only [Act.put, s1_, s2_, s3_, i64_w, i32_w]
    rfl
   refine one_ (i := 2) (N := some 9) (bs_ 4 4) rfl rfl (one_of HT_.out (by kernel_rfl)) (by decide) (fun K hK => ?_)
   refine goes_ Tryd.func49 (by kernel_rfl) rfl #[.int .i64 a0_2] (by rfl) rfl rfl (by (try simp only [List.map_toArray, List.map_cons, List.map_nil]); first | done | rfl) ?_
   with_reducible refine (moment_plain.calls a0_2 t470 _ A4.out).mono ?_
   rintro e w11 ⟨rfl, hb⟩
   refine ⟨_, rfl, ?_⟩
   have n0_ := Aside0.mk (blk_below (g := gb468) (o := .cells #[.int .i64 a0_0, .int .i64 a0_1, .int .i64 a0_2, .int .i64 a0_3, .int .i64 a0_4, .int .i64 a0_5, .int .i64 a0_6] 23 (0, 0)) (by (with_reducible repeat first | refine blk_drewN ?_ _ | refine blk_alloc ?_ _); exact BK468.out) hb)
   have n1_ := Aside0.mk (below_step (by repeat (first | (with_reducible first | exact HB.out | apply below_alloc | apply pw_below_drewN | apply below_drew1 | refine below_set ?_ GE468.out) | exact HB.out)) hb)
   clear BK468
   clear HB
   have BK468 := n0_
   have HB := n1_
   clear n0_ n1_
   (try clear hb)
   (try clear hb2)
   (try clear hk)
   (try clear hi)
   refine hK.out _ _ ⟨(blk_cell BK468.out 0).trans rfl, (blk_cell BK468.out 1).trans rfl, (blk_cell BK468.out 2).trans rfl, (blk_cell BK468.out 3).trans rfl, (blk_cell BK468.out 4).trans rfl, (blk_cell BK468.out 5).trans rfl, (blk_cell BK468.out 6).trans rfl⟩ (fun hHeld => ?_)
   clear hK K
   refine norm_ (a' := ?_) ?_ ?_
   rotate_left
   ·show Act.put _ (some 9) _ = _
    simp only [Act.put, s1_, s2_, s3_, i64_w, i32_w]
    rfl
   refine one_ (i := 4) (N := some 11) (bs_ 5 3) rfl rfl (one_of HT_.out (by kernel_rfl)) (by decide) (fun K hK => ?_)
   refine goes_ Tryd.func50 (by kernel_rfl) rfl #[.agg #[.int .i64 a0_0, .int .i64 a0_1, .int .i64 a0_2, .int .i64 a0_3, .int .i64 a0_4, .int .i64 a0_5, .int .i64 a0_6]] (by rfl) rfl rfl (by (try simp only [List.map_toArray, List.map_cons, List.map_nil]); first | done | rfl) ?_
   with_reducible refine (moment_dashed.calls a0_0 a0_1 a0_2 a0_3 a0_4 a0_5 a0_6 t471 _ A5.out).mono ?_
   rintro e w12 ⟨rfl, hb⟩
   refine ⟨_, rfl, ?_⟩
   have n0_ := Aside0.mk (blk_below (g := gb468) (o := .cells #[.int .i64 a0_0, .int .i64 a0_1, .int .i64 a0_2, .int .i64 a0_3, .int .i64 a0_4, .int .i64 a0_5, .int .i64 a0_6] 23 (0, 0)) (by (with_reducible repeat first | refine blk_drewN ?_ _ | refine blk_alloc ?_ _); exact BK468.out) hb)
   have n1_ := Aside0.mk (below_step (by repeat (first | (with_reducible first | exact HB.out | apply below_alloc | apply pw_below_drewN | apply below_drew1 | refine below_set ?_ GE468.out) | exact HB.out)) hb)
   clear BK468
   clear HB
   have BK468 := n0_
   have HB := n1_
   clear n0_ n1_
   (try clear hb)
   (try clear hb2)
   (try clear hk)
   (try clear hi)
   refine hK.out _ _ ⟨(blk_cell BK468.out 0).trans rfl, (blk_cell BK468.out 1).trans rfl, (blk_cell BK468.out 2).trans rfl, (blk_cell BK468.out 3).trans rfl, (blk_cell BK468.out 4).trans rfl, (blk_cell BK468.out 5).trans rfl, (blk_cell BK468.out 6).trans rfl⟩ (fun hHeld => ?_)
   clear hK K
   refine norm_ (a' := ?_) ?_ ?_
   rotate_left
   ·show Act.put _ (some 11) _ = _
    simp only [Act.put, s1_, s2_, s3_, i64_w, i32_w]
    rfl
   refine pu_ 5 (some 12) ?_ (bs_ 6 2) rfl rfl (any_of HT_.out (by kernel_rfl)) (fun _ _ _ h => h) (y_ (by rfl) ?_) ?_ ?_ ?_
   rotate_left
   ·intro w'
    go_simp
    with_reducible rfl
   rotate_left
   ·simp only [Act.put, s1_, s2_, s3_, i64_w, i32_w]
    rfl
   refine pu_ 6 (some 2) ?_ (bs_ 7 1) rfl rfl (any_of HT_.out (by kernel_rfl)) (fun _ _ _ h => h) (y_ (by rfl) ?_) ?_ ?_ ?_
   rotate_left
   ·intro w'
    go_simp
    with_reducible rfl
   rotate_left
   ·simp only [Act.put, s1_, s2_, s3_, i64_w, i32_w]
    rfl
   refine pu_ 7 (some 3) ?_ (bs_ 8 0) rfl rfl (any_of HT_.out (by kernel_rfl)) (fun _ _ _ h => h) (y_ (by rfl) ?_) ?_ ?_ ?_
   rotate_left
   ·intro w'
    go_simp
    with_reducible rfl
   rotate_left
   ·simp only [Act.put, s1_, s2_, s3_, i64_w, i32_w]
    rfl
   refine done_ (done_of HT_.out (by kernel_rfl)) ?_
   try go_wp2
   go_ret2
   exact ⟨by first | rfl | (simp [errW_none, errW_some] <;> rfl) | (simp [*, errW_none, errW_some] <;> rfl), by repeat (first | (with_reducible first | exact HB.out | apply below_alloc | apply pw_below_drewN | apply below_drew1 | refine below_set ?_ GE468.out) | exact HB.out)⟩
  ·rw [if_neg c6] at H
   exact absurd H (by simp)
 ·replace c3 := Bool.eq_false_iff.mpr c3
  subst c3
  have H1 : (some ((⟨#[]⟩ : ByteArray), 21)) = some (r1, r2) := by rw [if_neg (show ¬ (false = true) by decide)] at H; exact H
  clear H
  have H := H1
  clear H1
  simp only [Option.some.injEq, Prod.mk.injEq] at H
  obtain ⟨rfl, rfl⟩ := H
  go_enter Tryd.func24, Tryd.ntmps24
  go_wp2_with (first | ((with_reducible refine gate_dst (N := 1) rfl ?_); refine box_event ?hg (N := 1) ?hd (cs := #[.int .i64 a0_0, .int .i64 a0_1, .int .i64 a0_2, .int .i64 a0_3, .int .i64 a0_4, .int .i64 a0_5, .int .i64 a0_6]) (t := 23) ?hr ?_; (case hd => rfl); (case hg => rfl); (case hr => first | (go_simp; done) | (go_simp; rfl)); intro gb468 hg w13 hbox hb; have n0_ := Aside0.mk (below_step (by repeat (first | (with_reducible first | exact HB.out | apply below_alloc | apply pw_below_drewN | apply below_drew1) | exact HB.out)) hb); have n1_ := Aside0.mk (hbox); have n2_ := Aside0.mk ((by rw [hg]; exact (below_size (by repeat (first | (with_reducible first | exact HB.out | apply below_alloc | apply pw_below_drewN | apply below_drew1) | exact HB.out))) : w.heap.size ≤ gb468)); have n3_ := Aside0.mk ((by rw [hg]; exact (below_size (by repeat (first | (with_reducible first | exact HB.out | apply below_alloc | apply pw_below_drewN | apply below_drew1) | exact HB.out))) : w.heap.size ≤ gb468)); clear HB; have HB := n0_; have BK468 := n1_; have GW468 := n2_; have GE468 := n3_; clear n0_ n1_ n2_ n3_; clear hb hbox hg; have hcz14_0 : w13.cell? ⟨gb468, 0, none⟩ = some (.int .i64 a0_0) := (blk_cell BK468.out 0).trans rfl; have hcz14_1 : w13.cell? ⟨gb468, 1, none⟩ = some (.int .i64 a0_1) := (blk_cell BK468.out 1).trans rfl; have hcz14_2 : w13.cell? ⟨gb468, 2, none⟩ = some (.int .i64 a0_2) := (blk_cell BK468.out 2).trans rfl; have hcz14_3 : w13.cell? ⟨gb468, 3, none⟩ = some (.int .i64 a0_3) := (blk_cell BK468.out 3).trans rfl; have hcz14_4 : w13.cell? ⟨gb468, 4, none⟩ = some (.int .i64 a0_4) := (blk_cell BK468.out 4).trans rfl; have hcz14_5 : w13.cell? ⟨gb468, 5, none⟩ = some (.int .i64 a0_5) := (blk_cell BK468.out 5).trans rfl; have hcz14_6 : w13.cell? ⟨gb468, 6, none⟩ = some (.int .i64 a0_6) := (blk_cell BK468.out 6).trans rfl; have hfz14_0 := blk_frozen BK468.out 0; have hfz14_1 := blk_frozen BK468.out 1; have hfz14_2 := blk_frozen BK468.out 2; have hfz14_3 := blk_frozen BK468.out 3; have hfz14_4 := blk_frozen BK468.out 4; have hfz14_5 := blk_frozen BK468.out 5; have hfz14_6 := blk_frozen BK468.out 6) | ((with_reducible refine gate_callee (f := 46) rfl ?_); refine goesL_ (some 5) rfl rfl Tryd.func46 (by kernel_rfl) rfl #[.agg #[.int .i64 a0_0, .int .i64 a0_1, .int .i64 a0_2, .int .i64 a0_3, .int .i64 a0_4, .int .i64 a0_5, .int .i64 a0_6]] rfl (by (try simp only [List.map_toArray, List.map_cons, List.map_nil]); first | done | rfl) ?_; (with_reducible refine (moment_isDay.calls a0_0 a0_1 a0_2 a0_3 a0_4 a0_5 a0_6 false _ A2.out (by first | exact laid_below HL_.out (by repeat (first | (with_reducible first | exact HB.out | apply below_alloc | apply pw_below_drewN | apply below_drew1) | exact HB.out)) | exact laid_drawn HL_.out (by repeat (first | exact Drawn0.refl _ | apply Drawn0.step)))).mono ?_); rintro e w15 ⟨rfl, hb⟩; refine ⟨_, rfl, ?_⟩; have n0_ := Aside0.mk (blk_below (g := gb468) (o := .cells #[.int .i64 a0_0, .int .i64 a0_1, .int .i64 a0_2, .int .i64 a0_3, .int .i64 a0_4, .int .i64 a0_5, .int .i64 a0_6] 23 (0, 0)) (by (with_reducible repeat first | refine blk_drewN ?_ _ | refine blk_alloc ?_ _); exact BK468.out) hb); have n1_ := Aside0.mk (below_step (by repeat (first | (with_reducible first | exact HB.out | apply below_alloc | apply pw_below_drewN | apply below_drew1 | refine below_set ?_ GE468.out) | exact HB.out)) hb); clear BK468; clear HB; have BK468 := n0_; have HB := n1_; clear n0_ n1_; (try clear hb); (try clear hb2); (try clear hk); (try clear hi)))
  go_ret2
  exact ⟨by first | rfl | (simp [errW_none, errW_some] <;> rfl) | (simp [*, errW_none, errW_some] <;> rfl), by repeat (first | (with_reducible first | exact HB.out | apply below_alloc | apply pw_below_drewN | apply below_drew1 | refine below_set ?_ GE468.out) | exact HB.out)⟩
end Go.Proofs.YtjlchnmpebdggaaDoor.Mo
end
section
-- PRINTED by a driver of print.py
namespace Go.Proofs.YtjlchnmpebdggaaDoor.Mo
open Go.RowKit Go.Proofs.YtjlchnmpebdggaaDoorW.PrintWords Go.Proofs.YtjlchnmpebdggaaDoorW.PrintLast Go.Proofs.YtjlchnmpebdggaaDoorW.PrintMore
attribute [local go_sem] max2_int min2_int max_two min_two max_three min_three max_four min_four   -- for this text's walks alone
set_option linter.unusedVariables false
set_option linter.unusedSimpArgs false
end Go.Proofs.YtjlchnmpebdggaaDoor.Mo
end
section
-- PRINTED by a driver of print.py
namespace Go.Proofs.YtjlchnmpebdggaaDoor.Mo
open Go.RowKit Go.Proofs.YtjlchnmpebdggaaDoorW.PrintWords Go.Proofs.YtjlchnmpebdggaaDoorW.PrintLast Go.Proofs.YtjlchnmpebdggaaDoorW.PrintMore
attribute [local go_sem] max2_int min2_int max_two min_two max_three min_three max_four min_four   -- for this text's walks alone
set_option linter.unusedVariables false
set_option linter.unusedSimpArgs false
attribute [local go_sem high] eqA23
end Go.Proofs.YtjlchnmpebdggaaDoor.Mo
end
section
-- PRINTED by a driver of print.py
namespace Go.Proofs.YtjlchnmpebdggaaDoor.Mo
open Go.RowKit Go.Proofs.YtjlchnmpebdggaaDoorW.PrintWords Go.Proofs.YtjlchnmpebdggaaDoorW.PrintLast Go.Proofs.YtjlchnmpebdggaaDoorW.PrintMore
attribute [local go_sem] max2_int min2_int max_two min_two max_three min_three max_four min_four   -- for this text's walks alone
set_option linter.unusedVariables false
set_option linter.unusedSimpArgs false
end Go.Proofs.YtjlchnmpebdggaaDoor.Mo
end
section
namespace Go.Proofs.YtjlchnmpebdggaaDoor.Mo
open Go.RowKit Go.Proofs.YtjlchnmpebdggaaDoorW.PrintWords
def printDayP (y m d : Int) : ByteArray × Int := if isDayB y m d = true then (plainP d ++ dashP y m, 0) else (⟨#[]⟩, 21)
theorem printDay_f (y m d h mi s z : Int) : moment_PrintDay.f y m d h mi s z = some (printDayP y m d) := by
  unfold moment_PrintDay.f printDayP
  rw [isDay_f, Option.bind_some]
  by_cases hd : isDayB y m d = true
  · obtain ⟨a1, a2, a3, a4, a5, a6⟩ := (isDay_iff _ _ _).1 hd
    have hp := plainP_size d
    have hs := dashP_size y m a3 a4
    rw [if_pos hd, if_pos hd, plain_f, Option.bind_some]
    unfold moment_dashed.f
    rw [if_pos ⟨a3, a4⟩, Option.bind_some, if_pos (by omega)]
  · rw [if_neg hd, if_neg hd]
end Go.Proofs.YtjlchnmpebdggaaDoor.Mo
end
section
-- PRINTED by a driver of print.py
namespace Go.Proofs.YtjlchnmpebdggaaDoor.Mo
open Go.RowKit Go.Proofs.YtjlchnmpebdggaaDoorW.PrintWords Go.Proofs.YtjlchnmpebdggaaDoorW.PrintLast Go.Proofs.YtjlchnmpebdggaaDoorW.PrintMore
attribute [local go_sem] max2_int min2_int max_two min_two max_three min_three max_four min_four   -- for this text's walks alone
set_option linter.unusedVariables false
set_option linter.unusedSimpArgs false
attribute [local go_sem high] eqA23
end Go.Proofs.YtjlchnmpebdggaaDoor.Mo
end
section
namespace Go.Proofs.YtjlchnmpebdggaaDoor.Mo
open Go.RowKit Go.Proofs.YtjlchnmpebdggaaDoorW.PrintWords
end Go.Proofs.YtjlchnmpebdggaaDoor.Mo
end
section
namespace Go.Proofs.YtjlchnmpebdggaaDoor.Mo
open Go.RowKit Go.Proofs.YtjlchnmpebdggaaDoorW.PrintWords
end Go.Proofs.YtjlchnmpebdggaaDoor.Mo
end
section
namespace Go.Proofs.YtjlchnmpebdggaaDoor.Mo
open Go.RowKit Go.Proofs.YtjlchnmpebdggaaDoorW.PrintWords
attribute [local go_sem high] eqA23
theorem no_more {n : Nat} (h : n ≤ 1000000) : (9223372036854775807 < n) = False := eq_false (by omega)
theorem app_ext (x q r : ByteArray) (i j : Nat) (h : q.extract i j = r) : (x ++ q).extract (x.size + i) (x.size + j) = r := by
  rw [← h]
  apply ByteArray.ext
  apply Array.toList_inj.1
  have hx := toList_len x
  rw [ByteArray.data_extract, Array.toList_extract, List.extract_eq_take_drop, ByteArray.data_extract, Array.toList_extract, List.extract_eq_take_drop, app_list, List.drop_append, ← hx]
  rw [List.drop_of_length_le (by omega), List.nil_append]
  congr 1
  · omega
  · congr 1
    omega
theorem day_parts (d y m : Int) (y1 : 1 ≤ y) (y2 : y ≤ 9999) (m1 : 1 ≤ m) (m2 : m ≤ 12) : (plainP d ++ dashP y m).extract ((plainP d).size + 5) ((plainP d).size + 9) = fourP y ∧ (plainP d ++ dashP y m).extract ((plainP d).size + 1) ((plainP d).size + 4) = monthL.getD (m - 1).toNat ⟨#[]⟩ := by
  obtain ⟨a, b, c, hl, _, hp⟩ := month_facts (m - 1).toNat (by omega)
  have hf := four_list y (by omega) y2
  have hD : (dashP y m).data.toList = [45, a, b, c, 45, dgB (y / 100 / 10), dgB (y / 100 % 10), dgB (y % 100 / 10), dgB (y % 100 % 10)] := by
    unfold dashP
    rw [app_list, app_list, app_list, hl, hf]
    rfl
  exact ⟨app_ext _ _ _ 5 9 (ext_of hD 5 9 (by rw [hf]; rfl)), app_ext _ _ _ 1 4 (ext_of hD 1 4 (by rw [hl]; rfl))⟩
theorem valid_sec0 {y m d h mi s z : Int} (hv : validB y m d h mi s z = true) : validB y m d h mi 0 z = true := by
  obtain ⟨hd, ht⟩ := (valid_iff _ _ _ _ _ _ _).1 hv
  obtain ⟨b1, b2, b3, b4, b5, b6, b7, b8⟩ := (time_iff _ _ _ _).1 ht
  exact (valid_iff _ _ _ _ _ _ _).2 ⟨hd, (time_iff _ _ _ _).2 ⟨b1, b2, b3, b4, by omega, by omega, b7, b8⟩⟩
theorem gapB_list (l : List ByteArray) (n : Nat) : (gapB l n).data.toList = gapG l n := by unfold gapB; simp
theorem gaps_text (y m d h mi s s1 z NZ : Int) (wk sc : Bool) (l : List ByteArray) (T18 T20 T22 TA G0 G1 G2 G3 G4 G5 G6 G7 G8 G9 G10 td th tm ts tq tr SG MO YR : ByteArray)
    (g0 : G0 = gapB l 0) (g1 : G1 = gapB l 1) (g2 : G2 = gapB l 2) (g3 : G3 = gapB l 3) (g4 : G4 = gapB l 4) (g5 : G5 = gapB l 5) (g6 : G6 = gapB l 6) (g7 : G7 = gapB l 7) (g8 : G8 = gapB l 8) (g9 : G9 = gapB l 9) (g10 : G10 = gapB l 10)
    (e1 : td = twoP d) (e2 : th = twoP h) (e3 : tm = twoP mi) (e4 : ts = twoP s) (e5 : tq = twoP (NZ / 60)) (e6 : tr = twoP (NZ % 60)) (e7 : SG = signB z) (e8 : MO = monthL.getD (m - 1).toNat ⟨#[]⟩) (e9 : YR = fourP y) (e10 : NZ = absZ z)
    (eA : TA = (if wk = true then (G0 ++ (⟨#[119, 69, 68]⟩ : ByteArray) ++ G1 ++ (⟨#[44]⟩ : ByteArray)) else G0)) (e18 : T18 = ((((((((((((TA ++ G2) ++ td) ++ G3) ++ MO) ++ G4) ++ YR) ++ G5) ++ th) ++ G6) ++ (⟨#[58]⟩ : ByteArray)) ++ G7) ++ tm)) (e20 : T20 = (if sc = true then ((T18 ++ G8) ++ (⟨#[58]⟩ : ByteArray)) ++ ts else T18)) (e22 : T22 = (((((T20 ++ G9) ++ SG) ++ tq) ++ tr) ++ G10)) (es : s1 = if sc = true then s else 0) :
    T22.data.toList = gapsL y m d h mi s1 z wk sc (gapG l) := by
  subst e22 e20 e18 eA es g0 g1 g2 g3 g4 g5 g6 g7 g8 g9 g10 e1 e2 e3 e4 e5 e6 e7 e8 e9 e10
  unfold gapsL
  cases wk <;> cases sc <;> simp [gapB_list]
set_option maxHeartbeats 8000000 in
set_option maxRecDepth 100000 in
theorem gaps_calls (y m d h mi s z : Int) (A : Option Addr) (cc : Nat) (l : List ByteArray) (wk sc : Bool) (w : World) (hR : Kd.C Kd.string w A l.length l) (hle : l.length ≤ cc) (hx : ∀ x ∈ l, x.size ≤ 140737488351232) (hL : Laid w) :
    Calls Tryd.prog 7 #[.agg #[.int .i64 y, .int .i64 m, .int .i64 d, .int .i64 h, .int .i64 mi, .int .i64 s, .int .i64 z], .slice A l.length cc, .bool wk, .bool sc] w fun e w' => e = .returned (.bool true) ∧ Below w.heap.size w w' := by
  have HL := Lib.hid hL
  clear hL
  have HR := Lib.hid hR
  clear hR
  have HLE := Lib.hid hle
  clear hle
  have H19 := Lib.hid (valid_f y m d h mi s z)
  obtain ⟨G0, eG⟩ : ∃ x, x = gapB l 0 := ⟨_, rfl⟩
  have HG0 := Lib.hid (show postbaglaw2_gap.f 500 l 0 = some G0 from by rw [eG]; exact gap_f 500 (by decide) l 0 hx)
  have sG0 : G0.size ≤ 900 := by rw [eG]; exact gapB_size l 0
  have EG0 := Lib.hid eG
  clear eG
  obtain ⟨G1, eG⟩ : ∃ x, x = gapB l 1 := ⟨_, rfl⟩
  have HG1 := Lib.hid (show postbaglaw2_gap.f 500 l 1 = some G1 from by rw [eG]; exact gap_f 500 (by decide) l 1 hx)
  have sG1 : G1.size ≤ 900 := by rw [eG]; exact gapB_size l 1
  have EG1 := Lib.hid eG
  clear eG
  obtain ⟨G2, eG⟩ : ∃ x, x = gapB l 2 := ⟨_, rfl⟩
  have HG2 := Lib.hid (show postbaglaw2_gap.f 500 l 2 = some G2 from by rw [eG]; exact gap_f 500 (by decide) l 2 hx)
  have sG2 : G2.size ≤ 900 := by rw [eG]; exact gapB_size l 2
  have EG2 := Lib.hid eG
  clear eG
  obtain ⟨G3, eG⟩ : ∃ x, x = gapB l 3 := ⟨_, rfl⟩
  have HG3 := Lib.hid (show postbaglaw2_gap.f 500 l 3 = some G3 from by rw [eG]; exact gap_f 500 (by decide) l 3 hx)
  have sG3 : G3.size ≤ 900 := by rw [eG]; exact gapB_size l 3
  have EG3 := Lib.hid eG
  clear eG
  obtain ⟨G4, eG⟩ : ∃ x, x = gapB l 4 := ⟨_, rfl⟩
  have HG4 := Lib.hid (show postbaglaw2_gap.f 500 l 4 = some G4 from by rw [eG]; exact gap_f 500 (by decide) l 4 hx)
  have sG4 : G4.size ≤ 900 := by rw [eG]; exact gapB_size l 4
  have EG4 := Lib.hid eG
  clear eG
  obtain ⟨G5, eG⟩ : ∃ x, x = gapB l 5 := ⟨_, rfl⟩
  have HG5 := Lib.hid (show postbaglaw2_gap.f 500 l 5 = some G5 from by rw [eG]; exact gap_f 500 (by decide) l 5 hx)
  have sG5 : G5.size ≤ 900 := by rw [eG]; exact gapB_size l 5
  have EG5 := Lib.hid eG
  clear eG
  obtain ⟨G6, eG⟩ : ∃ x, x = gapB l 6 := ⟨_, rfl⟩
  have HG6 := Lib.hid (show postbaglaw2_gap.f 500 l 6 = some G6 from by rw [eG]; exact gap_f 500 (by decide) l 6 hx)
  have sG6 : G6.size ≤ 900 := by rw [eG]; exact gapB_size l 6
  have EG6 := Lib.hid eG
  clear eG
  obtain ⟨G7, eG⟩ : ∃ x, x = gapB l 7 := ⟨_, rfl⟩
  have HG7 := Lib.hid (show postbaglaw2_gap.f 500 l 7 = some G7 from by rw [eG]; exact gap_f 500 (by decide) l 7 hx)
  have sG7 : G7.size ≤ 900 := by rw [eG]; exact gapB_size l 7
  have EG7 := Lib.hid eG
  clear eG
  obtain ⟨G8, eG⟩ : ∃ x, x = gapB l 8 := ⟨_, rfl⟩
  have HG8 := Lib.hid (show postbaglaw2_gap.f 500 l 8 = some G8 from by rw [eG]; exact gap_f 500 (by decide) l 8 hx)
  have sG8 : G8.size ≤ 900 := by rw [eG]; exact gapB_size l 8
  have EG8 := Lib.hid eG
  clear eG
  obtain ⟨G9, eG⟩ : ∃ x, x = gapB l 9 := ⟨_, rfl⟩
  have HG9 := Lib.hid (show postbaglaw2_gap.f 500 l 9 = some G9 from by rw [eG]; exact gap_f 500 (by decide) l 9 hx)
  have sG9 : G9.size ≤ 900 := by rw [eG]; exact gapB_size l 9
  have EG9 := Lib.hid eG
  clear eG
  obtain ⟨G10, eG⟩ : ∃ x, x = gapB l 10 := ⟨_, rfl⟩
  have HG10 := Lib.hid (show postbaglaw2_gap.f 500 l 10 = some G10 from by rw [eG]; exact gap_f 500 (by decide) l 10 hx)
  have sG10 : G10.size ≤ 900 := by rw [eG]; exact gapB_size l 10
  have EG10 := Lib.hid eG
  clear eG
  clear hx
  have HB := Lib.hid (below_alloc (Below.refl _ w) (.cells #[.int .i64 y, .int .i64 m, .int .i64 d, .int .i64 h, .int .i64 mi, .int .i64 s, .int .i64 z] 23))
  have HA := Lib.hid (heap_alloc_new w (.cells #[.int .i64 y, .int .i64 m, .int .i64 d, .int .i64 h, .int .i64 mi, .int .i64 s, .int .i64 z] 23))
  go_enter Tryd.func7, Tryd.ntmps7
  go_wp2_with fail
  generalize w.alloc (.cells #[.int .i64 y, .int .i64 m, .int .i64 d, .int .i64 h, .int .i64 mi, .int .i64 s, .int .i64 z] 23) = w0 at *
  refine (known_calls _ (laid_below HL.out (by repeat (first | (with_reducible exact HB.out) | (with_reducible apply below_drew) | (with_reducible apply pw_below_drewN) | exact HB.out)))).mono ?_
  rintro e w1 ⟨rfl, hb⟩
  have n0_ := Lib.hid (below_step (by repeat (first | (with_reducible exact HB.out) | (with_reducible apply below_drew) | (with_reducible apply pw_below_drewN) | exact HB.out)) hb)
  clear HB
  have HB := n0_
  clear n0_
  have n0_ := Lib.hid ((hb.block _ (blk_lt HA.out)).trans HA.out)
  clear HA
  have HA := n0_
  clear n0_
  clear hb
  obtain ⟨⟨a0, a1, a2, a3, a4, a5, a6⟩, _⟩ := cells7 HA.out
  go_wp2_with fail
  clear a0 a1 a2 a3 a4 a5 a6
  refine (moment_Valid.calls y m d h mi s z (validB y m d h mi s z) _ H19.out (laid_below HL.out (by repeat (first | (with_reducible exact HB.out) | (with_reducible apply below_drew) | (with_reducible apply pw_below_drewN) | exact HB.out)))).mono ?_
  rintro e w2 ⟨rfl, hb⟩
  have n0_ := Lib.hid (below_step (by repeat (first | (with_reducible exact HB.out) | (with_reducible apply below_drew) | (with_reducible apply pw_below_drewN) | exact HB.out)) hb)
  clear HB
  have HB := n0_
  clear n0_
  have n0_ := Lib.hid ((hb.block _ (blk_lt HA.out)).trans HA.out)
  clear HA
  have HA := n0_
  clear n0_
  clear hb
  cases hv : validB y m d h mi s z with
  | false =>
    skip
    go_wp2
    go_ret
    exact ⟨rfl, HB.out⟩
  | true =>
    skip
    have HV := Lib.hid hv
    obtain ⟨hd, ht⟩ := (valid_iff _ _ _ _ _ _ _).1 hv
    obtain ⟨a1, a2, a3, a4, a5, a6⟩ := (isDay_iff _ _ _).1 hd
    obtain ⟨b1, b2, b3, b4, b5, b6, b7, b8⟩ := (time_iff _ _ _ _).1 ht
    have hlr := length_range y m a3 a4
    have HPD := Lib.hid (show moment_PrintDay.f y m d h mi s z = some (plainP d ++ dashP y m, 0) from by rw [printDay_f]; unfold printDayP; rw [if_pos hd])
    have pd := plain_ten d a5 (by omega)
    have ds := dashP_size y m a3 a4
    have hDs : (plainP d ++ dashP y m).size = (plainP d).size + 9 := by rw [ByteArray.size_append, ds]
    obtain ⟨pt5, pt1⟩ := day_parts d y m (by omega) a2 a3 a4
    obtain ⟨MO, eMO⟩ : ∃ x, x = monthL.getD (m - 1).toNat ⟨#[]⟩ := ⟨_, rfl⟩
    obtain ⟨YR, eYR⟩ : ∃ x, x = fourP y := ⟨_, rfl⟩
    rw [← eMO] at pt1
    rw [← eYR] at pt5
    have EMO := Lib.hid eMO
    have EYR := Lib.hid eYR
    have sMO : MO.size ≤ 3 := by rw [eMO, month_size _ (by omega)]; exact Nat.le_refl _
    have sYR : YR.size ≤ 4 := by rw [eYR, fourP_size]; exact Nat.le_refl _
    clear eMO eYR
    have hN : 1 ≤ (plainP d).size ∧ (plainP d).size ≤ 2 := by rw [pd]; split <;> omega
    have z0 : 0 ≤ absZ z ∧ absZ z ≤ 1439 := by unfold absZ; split <;> omega
    generalize hDD : plainP d ++ dashP y m = D at *
    have hD1 : D.size ≤ (plainP d).size + 9 := by omega
    have hD2 : (plainP d).size + 9 ≤ D.size := by omega
    clear hDs
    generalize (plainP d).size = N at *
    clear hDD pd ds hd ht hv
    have hsl1 : ∀ w', (Instr.slice 9 (.string D) (some (.int .i64 ((D.size : Int) - 4))) none none).run Tryd.prog w' = .ok (.string YR) w' := fun w' => by
      rw [run_slice_string_l (P := Tryd.prog) (w := w') (t := 9) (s := D) Tryd.underlying9 .i64 ((D.size : Int) - 4) (by omega) (by omega), ← pt5]; congr 3 <;> omega
    have hsl2 : ∀ w', (Instr.slice 9 (.string D) (some (.int .i64 ((D.size : Int) - 8))) (some (.int .i64 ((D.size : Int) - 5))) none).run Tryd.prog w' = .ok (.string MO) w' := fun w' => by
      rw [run_slice_string (P := Tryd.prog) w' 9 D .i64 .i64 ((D.size : Int) - 8) ((D.size : Int) - 5) Tryd.underlying9 (by omega) (by omega) (by omega), ← pt1]; congr 3 <;> omega
    clear pt5 pt1
    have i4 : IntKind.i64.wrap ((D.size : Int) - 4) = (D.size : Int) - 4 := IntWalk.i64_in _ ⟨by omega, by omega⟩
    have i8 : IntKind.i64.wrap ((D.size : Int) - 8) = (D.size : Int) - 8 := IntWalk.i64_in _ ⟨by omega, by omega⟩
    have i5 : IntKind.i64.wrap ((D.size : Int) - 5) = (D.size : Int) - 5 := IntWalk.i64_in _ ⟨by omega, by omega⟩
    have l10 : decide ((D.size : Int) < 10) = false := decide_eq_false (by omega)
    obtain ⟨⟨a0, a1, a2, a3, a4, a5, a6⟩, _⟩ := cells7 HA.out
    go_wp2_with fail
    clear a0 a1 a2 a3 a4 a5 a6
    refine (moment_PrintDay.calls y m d h mi s z D 0 _ HPD.out (laid_below HL.out (by repeat (first | (with_reducible exact HB.out) | (with_reducible apply below_drew) | (with_reducible apply pw_below_drewN) | exact HB.out)))).mono ?_
    rintro e w3 ⟨rfl, hb⟩
    have n0_ := Lib.hid (below_step (by repeat (first | (with_reducible exact HB.out) | (with_reducible apply below_drew) | (with_reducible apply pw_below_drewN) | exact HB.out)) hb)
    clear HB
    have HB := n0_
    clear n0_
    have n0_ := Lib.hid ((hb.block _ (blk_lt HA.out)).trans HA.out)
    clear HA
    have HA := n0_
    clear n0_
    clear hb
    obtain ⟨⟨a0, a1, a2, a3, a4, a5, a6⟩, _⟩ := cells7 HA.out
    go_upto_if 51 with fail
    clear a0 a1 a2 a3 a4 a5 a6
    clear hsl1 hsl2 i4 i8 i5 l10 HPD hD1 hD2 hN
    go_cut [13, 14] (fun v13 v14 wc => v13 = .int .i64 (absZ z) ∧ v14 = .string (signB z) ∧ Aside0 (Below w.heap.size w wc ∧ wc.heap[w.heap.size]? = some (.cells #[.int .i64 y, .int .i64 m, .int .i64 d, .int .i64 h, .int .i64 mi, .int .i64 s, .int .i64 z] 23)))
    case first =>
      have wz : IntKind.i64.wrap (-z) = -z := IntWalk.i64_in _ ⟨by omega, by omega⟩
      by_cases hz : z < 0
      · have hz1 : decide (z < 0) = true := decide_eq_true hz
        go_wp2
        go_meet
        exact ⟨by unfold absZ; rw [if_pos hz], by unfold signB; rw [if_pos hz], HB.out, HA.out⟩
      · have hz1 : decide (z < 0) = false := decide_eq_false hz
        go_wp2
        go_meet
        exact ⟨by unfold absZ; rw [if_neg (by omega)], by unfold signB; rw [if_neg (by omega)], HB.out, HA.out⟩
    case rest =>
      obtain ⟨rfl, rfl, HQ⟩ := hcut
      clear HB HA
      have HB := Lib.hid HQ.out.1
      have HA := Lib.hid HQ.out.2
      clear HQ
      go_wp2_with fail
      refine (postbaglaw2_gap.calls 500 A cc l 0 G0 _ (Kd.C_below HR.out (by repeat (first | (with_reducible exact HB.out) | (with_reducible apply below_drew) | (with_reducible apply pw_below_drewN) | exact HB.out))) HLE.out HG0.out).mono ?_
      rintro e w4 ⟨rfl, hb⟩
      have n0_ := Lib.hid (below_step (by repeat (first | (with_reducible exact HB.out) | (with_reducible apply below_drew) | (with_reducible apply pw_below_drewN) | exact HB.out)) hb)
      clear HB
      have HB := n0_
      clear n0_
      have n0_ := Lib.hid ((hb.block _ (blk_lt HA.out)).trans HA.out)
      clear HA
      have HA := n0_
      clear n0_
      clear hb
      go_upto_if 56 with fail
      obtain ⟨TA, ETA0⟩ : ∃ x, x = (if wk = true then (G0 ++ (⟨#[119, 69, 68]⟩ : ByteArray) ++ G1 ++ (⟨#[44]⟩ : ByteArray)) else G0) := ⟨_, rfl⟩
      have ETA := Lib.hid ETA0
      clear ETA0
      have hTA : TA.size ≤ 2000 := by rw [ETA.out]; have e1 : (⟨#[119, 69, 68]⟩ : ByteArray).size = 3 := rfl; have e2 : (⟨#[44]⟩ : ByteArray).size = 1 := rfl; split <;> (try simp only [ByteArray.size_append]) <;> omega
      go_cut [15] (fun v15 wc => v15 = .string TA ∧ Aside0 (Below w.heap.size w wc ∧ wc.heap[w.heap.size]? = some (.cells #[.int .i64 y, .int .i64 m, .int .i64 d, .int .i64 h, .int .i64 mi, .int .i64 s, .int .i64 z] 23)))
      case first =>
        have f1 := no_more (n := G0.size + 3) (by omega)
        have f2 := no_more (n := G0.size + 3 + G1.size) (by omega)
        have f3 := no_more (n := G0.size + 3 + G1.size + 1) (by omega)
        cases wk with
        | false =>
          go_wp2
          go_meet
          exact ⟨by rw [ETA.out]; rfl, HB.out, HA.out⟩
        | true =>
          go_wp2_with fail
          refine (postbaglaw2_gap.calls 500 A cc l 1 G1 _ (Kd.C_below HR.out (by repeat (first | (with_reducible exact HB.out) | (with_reducible apply below_drew) | (with_reducible apply pw_below_drewN) | exact HB.out))) HLE.out HG1.out).mono ?_
          rintro e w5 ⟨rfl, hb⟩
          have n0_ := Lib.hid (below_step (by repeat (first | (with_reducible exact HB.out) | (with_reducible apply below_drew) | (with_reducible apply pw_below_drewN) | exact HB.out)) hb)
          clear HB
          have HB := n0_
          clear n0_
          have n0_ := Lib.hid ((hb.block _ (blk_lt HA.out)).trans HA.out)
          clear HA
          have HA := n0_
          clear n0_
          clear hb
          go_wp2
          go_meet
          exact ⟨by rw [ETA.out]; rfl, HB.out, HA.out⟩
      case rest =>
        obtain ⟨rfl, HQ⟩ := hcut
        clear HB HA
        have HB := Lib.hid HQ.out.1
        have HA := Lib.hid HQ.out.2
        clear HQ
        obtain ⟨td, e_⟩ : ∃ x, x = twoP d := ⟨_, rfl⟩
        have H_td := Lib.hid (show postbaglaw2_two.f d = some td from by rw [e_]; rfl)
        have s_td : td.size ≤ 2 := by rw [e_, twoP_size]; exact Nat.le_refl _
        have E_td := Lib.hid e_
        clear e_
        obtain ⟨th, e_⟩ : ∃ x, x = twoP h := ⟨_, rfl⟩
        have H_th := Lib.hid (show postbaglaw2_two.f h = some th from by rw [e_]; rfl)
        have s_th : th.size ≤ 2 := by rw [e_, twoP_size]; exact Nat.le_refl _
        have E_th := Lib.hid e_
        clear e_
        obtain ⟨tm, e_⟩ : ∃ x, x = twoP mi := ⟨_, rfl⟩
        have H_tm := Lib.hid (show postbaglaw2_two.f mi = some tm from by rw [e_]; rfl)
        have s_tm : tm.size ≤ 2 := by rw [e_, twoP_size]; exact Nat.le_refl _
        have E_tm := Lib.hid e_
        clear e_
        obtain ⟨ts, e_⟩ : ∃ x, x = twoP s := ⟨_, rfl⟩
        have H_ts := Lib.hid (show postbaglaw2_two.f s = some ts from by rw [e_]; rfl)
        have s_ts : ts.size ≤ 2 := by rw [e_, twoP_size]; exact Nat.le_refl _
        have E_ts := Lib.hid e_
        clear e_
        obtain ⟨NZ, eNZ⟩ : ∃ x, x = absZ z := ⟨_, rfl⟩
        rw [← eNZ] at z0 ⊢
        have ENZ := Lib.hid eNZ
        clear eNZ
        obtain ⟨SG, eSG⟩ : ∃ x, x = signB z := ⟨_, rfl⟩
        rw [← eSG]
        have sSG : SG.size ≤ 1 := by rw [eSG]; unfold signB; split <;> decide
        have ESG := Lib.hid eSG
        clear eSG
        obtain ⟨tq, e_⟩ : ∃ x, x = twoP (NZ / 60) := ⟨_, rfl⟩
        have H_tq := Lib.hid (show postbaglaw2_two.f (NZ / 60) = some tq from by rw [e_]; rfl)
        have s_tq : tq.size ≤ 2 := by rw [e_, twoP_size]; exact Nat.le_refl _
        have E_tq := Lib.hid e_
        clear e_
        obtain ⟨tr, e_⟩ : ∃ x, x = twoP (NZ % 60) := ⟨_, rfl⟩
        have H_tr := Lib.hid (show postbaglaw2_two.f (NZ % 60) = some tr from by rw [e_]; rfl)
        have s_tr : tr.size ≤ 2 := by rw [e_, twoP_size]; exact Nat.le_refl _
        have E_tr := Lib.hid e_
        clear e_
        obtain ⟨T18, e18⟩ : ∃ x, x = ((((((((((((TA ++ G2) ++ td) ++ G3) ++ MO) ++ G4) ++ YR) ++ G5) ++ th) ++ G6) ++ (⟨#[58]⟩ : ByteArray)) ++ G7) ++ tm) := ⟨_, rfl⟩
        have s18 : T18.size ≤ 20000 := by rw [e18]; have e1 : (⟨#[58]⟩ : ByteArray).size = 1 := rfl; simp only [ByteArray.size_append]; omega
        have E18 := Lib.hid e18
        clear e18
        go_upto_region 18 with fail
        go_cut [15] (fun v15 wc => v15 = .string T18 ∧ Aside0 (Below w.heap.size w wc ∧ wc.heap[w.heap.size]? = some (.cells #[.int .i64 y, .int .i64 m, .int .i64 d, .int .i64 h, .int .i64 mi, .int .i64 s, .int .i64 z] 23)))
        case first =>
          have f0 := no_more (n := TA.size + G2.size) (by omega)
          have f1 := no_more (n := TA.size + G2.size + td.size) (by omega)
          have f2 := no_more (n := TA.size + G2.size + td.size + G3.size) (by omega)
          have f3 := no_more (n := TA.size + G2.size + td.size + G3.size + MO.size) (by omega)
          have f4 := no_more (n := TA.size + G2.size + td.size + G3.size + MO.size + G4.size) (by omega)
          have f5 := no_more (n := TA.size + G2.size + td.size + G3.size + MO.size + G4.size + YR.size) (by omega)
          have f6 := no_more (n := TA.size + G2.size + td.size + G3.size + MO.size + G4.size + YR.size + G5.size) (by omega)
          have f7 := no_more (n := TA.size + G2.size + td.size + G3.size + MO.size + G4.size + YR.size + G5.size + th.size) (by omega)
          have f8 := no_more (n := TA.size + G2.size + td.size + G3.size + MO.size + G4.size + YR.size + G5.size + th.size + G6.size) (by omega)
          have f9 := no_more (n := TA.size + G2.size + td.size + G3.size + MO.size + G4.size + YR.size + G5.size + th.size + G6.size + 1) (by omega)
          have f10 := no_more (n := TA.size + G2.size + td.size + G3.size + MO.size + G4.size + YR.size + G5.size + th.size + G6.size + 1 + G7.size) (by omega)
          have f11 := no_more (n := TA.size + G2.size + td.size + G3.size + MO.size + G4.size + YR.size + G5.size + th.size + G6.size + 1 + G7.size + tm.size) (by omega)
          obtain ⟨⟨k0, k1, k2, k3, k4, k5, k6⟩, _⟩ := cells7 HA.out
          clear k0 k1 k5 k6
          go_region_held3 (fun w' => w'.cell? ⟨w.heap.size, 2, none⟩ = some (.int .i64 d) ∧ w'.cell? ⟨w.heap.size, 3, none⟩ = some (.int .i64 h) ∧ w'.cell? ⟨w.heap.size, 4, none⟩ = some (.int .i64 mi)) (go_keep) ((first | (go_at_call 25; (with_reducible refine (postbaglaw2_gap.calls 500 A cc l 2 G2 _ (Kd.C_below HR.out (by repeat (first | (with_reducible exact HB.out) | (with_reducible apply below_drew) | (with_reducible apply pw_below_drewN) | exact HB.out))) HLE.out HG2.out).mono ?_); rintro e u_ ⟨rfl, hb⟩; have n0_ := Lib.hid (below_step (by repeat (first | (with_reducible exact HB.out) | (with_reducible apply below_drew) | (with_reducible apply pw_below_drewN) | exact HB.out)) hb); clear HB; have HB := n0_; clear n0_; have n0_ := Lib.hid (blk_below (g := w.heap.size) (o := .cells #[.int .i64 y, .int .i64 m, .int .i64 d, .int .i64 h, .int .i64 mi, .int .i64 s, .int .i64 z] 23 (0, 0)) (by (with_reducible repeat (first | refine blk_drewN ?_ _ | refine blk_drew ?_ | refine blk_alloc ?_ _)); exact HA.out) hb); clear HA; have HA := n0_; clear n0_; have k2 := pw_cell_below hb (a := ⟨w.heap.size, 2, none⟩) (v := .int .i64 d) (by first | assumption | go_simp); have k3 := pw_cell_below hb (a := ⟨w.heap.size, 3, none⟩) (v := .int .i64 h) (by first | assumption | go_simp); have k4 := pw_cell_below hb (a := ⟨w.heap.size, 4, none⟩) (v := .int .i64 mi) (by first | assumption | go_simp); clear hb) | (go_at_call 25; (with_reducible refine (postbaglaw2_gap.calls 500 A cc l 3 G3 _ (Kd.C_below HR.out (by repeat (first | (with_reducible exact HB.out) | (with_reducible apply below_drew) | (with_reducible apply pw_below_drewN) | exact HB.out))) HLE.out HG3.out).mono ?_); rintro e u_ ⟨rfl, hb⟩; have n0_ := Lib.hid (below_step (by repeat (first | (with_reducible exact HB.out) | (with_reducible apply below_drew) | (with_reducible apply pw_below_drewN) | exact HB.out)) hb); clear HB; have HB := n0_; clear n0_; have n0_ := Lib.hid (blk_below (g := w.heap.size) (o := .cells #[.int .i64 y, .int .i64 m, .int .i64 d, .int .i64 h, .int .i64 mi, .int .i64 s, .int .i64 z] 23 (0, 0)) (by (with_reducible repeat (first | refine blk_drewN ?_ _ | refine blk_drew ?_ | refine blk_alloc ?_ _)); exact HA.out) hb); clear HA; have HA := n0_; clear n0_; have k2 := pw_cell_below hb (a := ⟨w.heap.size, 2, none⟩) (v := .int .i64 d) (by first | assumption | go_simp); have k3 := pw_cell_below hb (a := ⟨w.heap.size, 3, none⟩) (v := .int .i64 h) (by first | assumption | go_simp); have k4 := pw_cell_below hb (a := ⟨w.heap.size, 4, none⟩) (v := .int .i64 mi) (by first | assumption | go_simp); clear hb) | (go_at_call 25; (with_reducible refine (postbaglaw2_gap.calls 500 A cc l 4 G4 _ (Kd.C_below HR.out (by repeat (first | (with_reducible exact HB.out) | (with_reducible apply below_drew) | (with_reducible apply pw_below_drewN) | exact HB.out))) HLE.out HG4.out).mono ?_); rintro e u_ ⟨rfl, hb⟩; have n0_ := Lib.hid (below_step (by repeat (first | (with_reducible exact HB.out) | (with_reducible apply below_drew) | (with_reducible apply pw_below_drewN) | exact HB.out)) hb); clear HB; have HB := n0_; clear n0_; have n0_ := Lib.hid (blk_below (g := w.heap.size) (o := .cells #[.int .i64 y, .int .i64 m, .int .i64 d, .int .i64 h, .int .i64 mi, .int .i64 s, .int .i64 z] 23 (0, 0)) (by (with_reducible repeat (first | refine blk_drewN ?_ _ | refine blk_drew ?_ | refine blk_alloc ?_ _)); exact HA.out) hb); clear HA; have HA := n0_; clear n0_; have k2 := pw_cell_below hb (a := ⟨w.heap.size, 2, none⟩) (v := .int .i64 d) (by first | assumption | go_simp); have k3 := pw_cell_below hb (a := ⟨w.heap.size, 3, none⟩) (v := .int .i64 h) (by first | assumption | go_simp); have k4 := pw_cell_below hb (a := ⟨w.heap.size, 4, none⟩) (v := .int .i64 mi) (by first | assumption | go_simp); clear hb) | (go_at_call 25; (with_reducible refine (postbaglaw2_gap.calls 500 A cc l 5 G5 _ (Kd.C_below HR.out (by repeat (first | (with_reducible exact HB.out) | (with_reducible apply below_drew) | (with_reducible apply pw_below_drewN) | exact HB.out))) HLE.out HG5.out).mono ?_); rintro e u_ ⟨rfl, hb⟩; have n0_ := Lib.hid (below_step (by repeat (first | (with_reducible exact HB.out) | (with_reducible apply below_drew) | (with_reducible apply pw_below_drewN) | exact HB.out)) hb); clear HB; have HB := n0_; clear n0_; have n0_ := Lib.hid (blk_below (g := w.heap.size) (o := .cells #[.int .i64 y, .int .i64 m, .int .i64 d, .int .i64 h, .int .i64 mi, .int .i64 s, .int .i64 z] 23 (0, 0)) (by (with_reducible repeat (first | refine blk_drewN ?_ _ | refine blk_drew ?_ | refine blk_alloc ?_ _)); exact HA.out) hb); clear HA; have HA := n0_; clear n0_; have k2 := pw_cell_below hb (a := ⟨w.heap.size, 2, none⟩) (v := .int .i64 d) (by first | assumption | go_simp); have k3 := pw_cell_below hb (a := ⟨w.heap.size, 3, none⟩) (v := .int .i64 h) (by first | assumption | go_simp); have k4 := pw_cell_below hb (a := ⟨w.heap.size, 4, none⟩) (v := .int .i64 mi) (by first | assumption | go_simp); clear hb) | (go_at_call 25; (with_reducible refine (postbaglaw2_gap.calls 500 A cc l 6 G6 _ (Kd.C_below HR.out (by repeat (first | (with_reducible exact HB.out) | (with_reducible apply below_drew) | (with_reducible apply pw_below_drewN) | exact HB.out))) HLE.out HG6.out).mono ?_); rintro e u_ ⟨rfl, hb⟩; have n0_ := Lib.hid (below_step (by repeat (first | (with_reducible exact HB.out) | (with_reducible apply below_drew) | (with_reducible apply pw_below_drewN) | exact HB.out)) hb); clear HB; have HB := n0_; clear n0_; have n0_ := Lib.hid (blk_below (g := w.heap.size) (o := .cells #[.int .i64 y, .int .i64 m, .int .i64 d, .int .i64 h, .int .i64 mi, .int .i64 s, .int .i64 z] 23 (0, 0)) (by (with_reducible repeat (first | refine blk_drewN ?_ _ | refine blk_drew ?_ | refine blk_alloc ?_ _)); exact HA.out) hb); clear HA; have HA := n0_; clear n0_; have k2 := pw_cell_below hb (a := ⟨w.heap.size, 2, none⟩) (v := .int .i64 d) (by first | assumption | go_simp); have k3 := pw_cell_below hb (a := ⟨w.heap.size, 3, none⟩) (v := .int .i64 h) (by first | assumption | go_simp); have k4 := pw_cell_below hb (a := ⟨w.heap.size, 4, none⟩) (v := .int .i64 mi) (by first | assumption | go_simp); clear hb) | (go_at_call 25; (with_reducible refine (postbaglaw2_gap.calls 500 A cc l 7 G7 _ (Kd.C_below HR.out (by repeat (first | (with_reducible exact HB.out) | (with_reducible apply below_drew) | (with_reducible apply pw_below_drewN) | exact HB.out))) HLE.out HG7.out).mono ?_); rintro e u_ ⟨rfl, hb⟩; have n0_ := Lib.hid (below_step (by repeat (first | (with_reducible exact HB.out) | (with_reducible apply below_drew) | (with_reducible apply pw_below_drewN) | exact HB.out)) hb); clear HB; have HB := n0_; clear n0_; have n0_ := Lib.hid (blk_below (g := w.heap.size) (o := .cells #[.int .i64 y, .int .i64 m, .int .i64 d, .int .i64 h, .int .i64 mi, .int .i64 s, .int .i64 z] 23 (0, 0)) (by (with_reducible repeat (first | refine blk_drewN ?_ _ | refine blk_drew ?_ | refine blk_alloc ?_ _)); exact HA.out) hb); clear HA; have HA := n0_; clear n0_; have k2 := pw_cell_below hb (a := ⟨w.heap.size, 2, none⟩) (v := .int .i64 d) (by first | assumption | go_simp); have k3 := pw_cell_below hb (a := ⟨w.heap.size, 3, none⟩) (v := .int .i64 h) (by first | assumption | go_simp); have k4 := pw_cell_below hb (a := ⟨w.heap.size, 4, none⟩) (v := .int .i64 mi) (by first | assumption | go_simp); clear hb) | (go_at_call 26; (with_reducible refine (postbaglaw2_two.calls d td _ H_td.out).mono ?_); rintro e u_ ⟨rfl, hb⟩; have n0_ := Lib.hid (below_step (by repeat (first | (with_reducible exact HB.out) | (with_reducible apply below_drew) | (with_reducible apply pw_below_drewN) | exact HB.out)) hb); clear HB; have HB := n0_; clear n0_; have n0_ := Lib.hid (blk_below (g := w.heap.size) (o := .cells #[.int .i64 y, .int .i64 m, .int .i64 d, .int .i64 h, .int .i64 mi, .int .i64 s, .int .i64 z] 23 (0, 0)) (by (with_reducible repeat (first | refine blk_drewN ?_ _ | refine blk_drew ?_ | refine blk_alloc ?_ _)); exact HA.out) hb); clear HA; have HA := n0_; clear n0_; have k2 := pw_cell_below hb (a := ⟨w.heap.size, 2, none⟩) (v := .int .i64 d) (by first | assumption | go_simp); have k3 := pw_cell_below hb (a := ⟨w.heap.size, 3, none⟩) (v := .int .i64 h) (by first | assumption | go_simp); have k4 := pw_cell_below hb (a := ⟨w.heap.size, 4, none⟩) (v := .int .i64 mi) (by first | assumption | go_simp); clear hb) | (go_at_call 26; (with_reducible refine (postbaglaw2_two.calls h th _ H_th.out).mono ?_); rintro e u_ ⟨rfl, hb⟩; have n0_ := Lib.hid (below_step (by repeat (first | (with_reducible exact HB.out) | (with_reducible apply below_drew) | (with_reducible apply pw_below_drewN) | exact HB.out)) hb); clear HB; have HB := n0_; clear n0_; have n0_ := Lib.hid (blk_below (g := w.heap.size) (o := .cells #[.int .i64 y, .int .i64 m, .int .i64 d, .int .i64 h, .int .i64 mi, .int .i64 s, .int .i64 z] 23 (0, 0)) (by (with_reducible repeat (first | refine blk_drewN ?_ _ | refine blk_drew ?_ | refine blk_alloc ?_ _)); exact HA.out) hb); clear HA; have HA := n0_; clear n0_; have k2 := pw_cell_below hb (a := ⟨w.heap.size, 2, none⟩) (v := .int .i64 d) (by first | assumption | go_simp); have k3 := pw_cell_below hb (a := ⟨w.heap.size, 3, none⟩) (v := .int .i64 h) (by first | assumption | go_simp); have k4 := pw_cell_below hb (a := ⟨w.heap.size, 4, none⟩) (v := .int .i64 mi) (by first | assumption | go_simp); clear hb) | (go_at_call 26; (with_reducible refine (postbaglaw2_two.calls mi tm _ H_tm.out).mono ?_); rintro e u_ ⟨rfl, hb⟩; have n0_ := Lib.hid (below_step (by repeat (first | (with_reducible exact HB.out) | (with_reducible apply below_drew) | (with_reducible apply pw_below_drewN) | exact HB.out)) hb); clear HB; have HB := n0_; clear n0_; have n0_ := Lib.hid (blk_below (g := w.heap.size) (o := .cells #[.int .i64 y, .int .i64 m, .int .i64 d, .int .i64 h, .int .i64 mi, .int .i64 s, .int .i64 z] 23 (0, 0)) (by (with_reducible repeat (first | refine blk_drewN ?_ _ | refine blk_drew ?_ | refine blk_alloc ?_ _)); exact HA.out) hb); clear HA; have HA := n0_; clear n0_; have k2 := pw_cell_below hb (a := ⟨w.heap.size, 2, none⟩) (v := .int .i64 d) (by first | assumption | go_simp); have k3 := pw_cell_below hb (a := ⟨w.heap.size, 3, none⟩) (v := .int .i64 h) (by first | assumption | go_simp); have k4 := pw_cell_below hb (a := ⟨w.heap.size, 4, none⟩) (v := .int .i64 mi) (by first | assumption | go_simp); clear hb)))
          all_goals go_wp2
          all_goals go_meet
          all_goals exact ⟨by rw [E18.out], (by repeat (first | (with_reducible exact HB.out) | (with_reducible apply below_drew) | (with_reducible apply pw_below_drewN) | exact HB.out)), (by (with_reducible repeat (first | refine blk_drewN ?_ _ | refine blk_drew ?_ | refine blk_alloc ?_ _)); exact HA.out)⟩
        case rest =>
          obtain ⟨rfl, HQ⟩ := hcut
          clear HB HA
          have HB := Lib.hid HQ.out.1
          have HA := Lib.hid HQ.out.2
          clear HQ
          go_upto_if 99 with fail
          obtain ⟨s1, es1⟩ : ∃ x, x = (if sc = true then s else 0) := ⟨_, rfl⟩
          have ES1 := Lib.hid es1
          clear es1
          obtain ⟨T20, e20⟩ : ∃ x, x = (if sc = true then ((T18 ++ G8) ++ (⟨#[58]⟩ : ByteArray)) ++ ts else T18) := ⟨_, rfl⟩
          have s20 : T20.size ≤ 30000 := by rw [e20]; have e1 : (⟨#[58]⟩ : ByteArray).size = 1 := rfl; split <;> (try simp only [ByteArray.size_append]) <;> omega
          have E20 := Lib.hid e20
          clear e20
          go_cut [15] (fun v15 wc => v15 = .string T20 ∧ Aside0 (Below w.heap.size w wc ∧ wc.heap[w.heap.size]? = some (.cells #[.int .i64 y, .int .i64 m, .int .i64 d, .int .i64 h, .int .i64 mi, .int .i64 s1, .int .i64 z] 23)))
          case first =>
            have f0 := no_more (n := T18.size + G8.size) (by omega)
            have f1 := no_more (n := T18.size + G8.size + 1) (by omega)
            have f2 := no_more (n := T18.size + G8.size + 1 + ts.size) (by omega)
            obtain ⟨⟨k0, k1, k2, k3, k4, k5, k6⟩, kf⟩ := cells7 HA.out
            have kf5 := kf 5
            clear k0 k1 k2 k3 k4 k6
            cases sc with
            | false =>
              skip
              go_wp2
              go_meet
              have es : s1 = 0 := ES1.out
              exact ⟨by rw [E20.out]; rfl, HB.out.setCell (p := ⟨w.heap.size, 5, none⟩) (Nat.le_refl _) _, by rw [es]; exact blk_put (cs' := #[.int .i64 y, .int .i64 m, .int .i64 d, .int .i64 h, .int .i64 mi, .int .i64 0, .int .i64 z]) HA.out 5 (.int .i64 0) rfl⟩
            | true =>
              skip
              go_wp2_with fail
              go_region_held3 (fun w' => w'.cell? ⟨w.heap.size, 5, none⟩ = some (.int .i64 s)) (go_keep) ((first | (go_at_call 25; (with_reducible refine (postbaglaw2_gap.calls 500 A cc l 8 G8 _ (Kd.C_below HR.out (by repeat (first | (with_reducible exact HB.out) | (with_reducible apply below_drew) | (with_reducible apply pw_below_drewN) | exact HB.out))) HLE.out HG8.out).mono ?_); rintro e u_ ⟨rfl, hb⟩; have n0_ := Lib.hid (below_step (by repeat (first | (with_reducible exact HB.out) | (with_reducible apply below_drew) | (with_reducible apply pw_below_drewN) | exact HB.out)) hb); clear HB; have HB := n0_; clear n0_; have n0_ := Lib.hid (blk_below (g := w.heap.size) (o := .cells #[.int .i64 y, .int .i64 m, .int .i64 d, .int .i64 h, .int .i64 mi, .int .i64 s, .int .i64 z] 23 (0, 0)) (by (with_reducible repeat (first | refine blk_drewN ?_ _ | refine blk_drew ?_ | refine blk_alloc ?_ _)); exact HA.out) hb); clear HA; have HA := n0_; clear n0_; have k5 := pw_cell_below hb (a := ⟨w.heap.size, 5, none⟩) (v := .int .i64 s) (by first | assumption | go_simp); clear hb) | (go_at_call 26; (with_reducible refine (postbaglaw2_two.calls s ts _ H_ts.out).mono ?_); rintro e u_ ⟨rfl, hb⟩; have n0_ := Lib.hid (below_step (by repeat (first | (with_reducible exact HB.out) | (with_reducible apply below_drew) | (with_reducible apply pw_below_drewN) | exact HB.out)) hb); clear HB; have HB := n0_; clear n0_; have n0_ := Lib.hid (blk_below (g := w.heap.size) (o := .cells #[.int .i64 y, .int .i64 m, .int .i64 d, .int .i64 h, .int .i64 mi, .int .i64 s, .int .i64 z] 23 (0, 0)) (by (with_reducible repeat (first | refine blk_drewN ?_ _ | refine blk_drew ?_ | refine blk_alloc ?_ _)); exact HA.out) hb); clear HA; have HA := n0_; clear n0_; have k5 := pw_cell_below hb (a := ⟨w.heap.size, 5, none⟩) (v := .int .i64 s) (by first | assumption | go_simp); clear hb)))
              all_goals go_wp2
              all_goals go_meet
              all_goals exact ⟨by rw [E20.out]; rfl, (by repeat (first | (with_reducible exact HB.out) | (with_reducible apply below_drew) | (with_reducible apply pw_below_drewN) | exact HB.out)), by rw [show s1 = s from ES1.out]; exact (by (with_reducible repeat (first | refine blk_drewN ?_ _ | refine blk_drew ?_ | refine blk_alloc ?_ _)); exact HA.out)⟩
          case rest =>
            obtain ⟨rfl, HQ⟩ := hcut
            clear HB HA
            have HB := Lib.hid HQ.out.1
            have HA := Lib.hid HQ.out.2
            clear HQ
            obtain ⟨T22, e22⟩ : ∃ x, x = (((((T20 ++ G9) ++ SG) ++ tq) ++ tr) ++ G10) := ⟨_, rfl⟩
            have s22 : T22.size ≤ 40000 := by rw [e22]; simp only [ByteArray.size_append]; omega
            have E22 := Lib.hid e22
            clear e22
            have f0 := no_more (n := T20.size + G9.size) (by omega)
            have f1 := no_more (n := T20.size + G9.size + SG.size) (by omega)
            have f2 := no_more (n := T20.size + G9.size + SG.size + tq.size) (by omega)
            have f3 := no_more (n := T20.size + G9.size + SG.size + tq.size + tr.size) (by omega)
            have f4 := no_more (n := T20.size + G9.size + SG.size + tq.size + tr.size + G10.size) (by omega)
            have q1 : Int.tdiv NZ 60 = NZ / 60 := Int.tdiv_eq_ediv_of_nonneg z0.1
            have q2 : Int.tmod NZ 60 = NZ % 60 := Int.tmod_eq_emod_of_nonneg z0.1
            have q3 : IntKind.i64.wrap (NZ / 60) = NZ / 60 := IntWalk.i64_in _ ⟨by omega, by omega⟩
            have hTL := gaps_text y m d h mi s s1 z NZ wk sc l T18 T20 T22 TA G0 G1 G2 G3 G4 G5 G6 G7 G8 G9 G10 td th tm ts tq tr SG MO YR EG0.out EG1.out EG2.out EG3.out EG4.out EG5.out EG6.out EG7.out EG8.out EG9.out EG10.out E_td.out E_th.out E_tm.out E_ts.out E_tq.out E_tr.out ESG.out EMO.out EYR.out ENZ.out ETA.out E18.out E20.out E22.out ES1.out
            have hV1 : validB y m d h mi s1 z = true := by rw [ES1.out]; split; exact HV.out; exact valid_sec0 HV.out
            have hs0 : sc = false → s1 = 0 := fun e => by rw [ES1.out, e]; rfl
            have RH0 := Lib.hid ((gaps_back T22 (by omega) y m d h mi s1 z hV1 wk sc hs0 (gapG l) (gapG_ok l) [] (.inl rfl) (by rw [hTL, List.append_nil])).1 (by simp))
            have RH1 := Lib.hid ((gaps_back (T22 ++ (⟨#[120]⟩ : ByteArray)) (by rw [ByteArray.size_append]; have e1 : (⟨#[120]⟩ : ByteArray).size = 1 := rfl; omega) y m d h mi s1 z hV1 wk sc hs0 (gapG l) (gapG_ok l) [120] (.inr (.inr rfl)) (by rw [app_list, hTL])).2 rfl)
            have RH2 := Lib.hid ((gaps_back (T22 ++ (⟨#[40, 120]⟩ : ByteArray)) (by rw [ByteArray.size_append]; have e1 : (⟨#[40, 120]⟩ : ByteArray).size = 2 := rfl; omega) y m d h mi s1 z hV1 wk sc hs0 (gapG l) (gapG_ok l) [40, 120] (.inr (.inl rfl)) (by rw [app_list, hTL])).1 (by simp))
            have fx := no_more (n := T22.size + 1) (by omega)
            have fy := no_more (n := T22.size + 2) (by omega)
            clear hTL hV1 hs0 ES1 E20 E18 ETA
            go_wp2_with fail
            refine (postbaglaw2_gap.calls 500 A cc l 9 G9 _ (Kd.C_below HR.out (by repeat (first | (with_reducible exact HB.out) | (with_reducible apply below_drew) | (with_reducible apply pw_below_drewN) | exact HB.out))) HLE.out HG9.out).mono ?_
            rintro e x1 ⟨rfl, hb⟩
            have n0_ := Lib.hid (below_step (by repeat (first | (with_reducible exact HB.out) | (with_reducible apply below_drew) | (with_reducible apply pw_below_drewN) | exact HB.out)) hb)
            clear HB
            have HB := n0_
            clear n0_
            have n0_ := Lib.hid ((hb.block _ (blk_lt HA.out)).trans HA.out)
            clear HA
            have HA := n0_
            clear n0_
            clear hb
            go_wp2_with fail
            refine (postbaglaw2_two.calls (NZ / 60) tq _ H_tq.out).mono ?_
            rintro e x2 ⟨rfl, hb⟩
            have n0_ := Lib.hid (below_step (by repeat (first | (with_reducible exact HB.out) | (with_reducible apply below_drew) | (with_reducible apply pw_below_drewN) | exact HB.out)) hb)
            clear HB
            have HB := n0_
            clear n0_
            have n0_ := Lib.hid ((hb.block _ (blk_lt HA.out)).trans HA.out)
            clear HA
            have HA := n0_
            clear n0_
            clear hb
            go_wp2_with fail
            refine (postbaglaw2_two.calls (NZ % 60) tr _ H_tr.out).mono ?_
            rintro e x3 ⟨rfl, hb⟩
            have n0_ := Lib.hid (below_step (by repeat (first | (with_reducible exact HB.out) | (with_reducible apply below_drew) | (with_reducible apply pw_below_drewN) | exact HB.out)) hb)
            clear HB
            have HB := n0_
            clear n0_
            have n0_ := Lib.hid ((hb.block _ (blk_lt HA.out)).trans HA.out)
            clear HA
            have HA := n0_
            clear n0_
            clear hb
            go_wp2_with fail
            refine (postbaglaw2_gap.calls 500 A cc l 10 G10 _ (Kd.C_below HR.out (by repeat (first | (with_reducible exact HB.out) | (with_reducible apply below_drew) | (with_reducible apply pw_below_drewN) | exact HB.out))) HLE.out HG10.out).mono ?_
            rintro e x4 ⟨rfl, hb⟩
            have n0_ := Lib.hid (below_step (by repeat (first | (with_reducible exact HB.out) | (with_reducible apply below_drew) | (with_reducible apply pw_below_drewN) | exact HB.out)) hb)
            clear HB
            have HB := n0_
            clear n0_
            have n0_ := Lib.hid ((hb.block _ (blk_lt HA.out)).trans HA.out)
            clear HA
            have HA := n0_
            clear n0_
            clear hb
            go_wp2_with fail
            rw [← E22.out]
            refine (moment_ReadHeader.calls T22 y m d h mi s1 z 0 _ RH0.out (laid_below HL.out (by repeat (first | (with_reducible exact HB.out) | (with_reducible apply below_drew) | (with_reducible apply pw_below_drewN) | exact HB.out)))).mono ?_
            rintro e x5 ⟨rfl, hb⟩
            have n0_ := Lib.hid (below_step (by repeat (first | (with_reducible exact HB.out) | (with_reducible apply below_drew) | (with_reducible apply pw_below_drewN) | exact HB.out)) hb)
            clear HB
            have HB := n0_
            clear n0_
            have n0_ := Lib.hid ((hb.block _ (blk_lt HA.out)).trans HA.out)
            clear HA
            have HA := n0_
            clear n0_
            clear hb
            go_upto_region 24 with fail
            have n1_ := Lib.hid (heap_alloc_new x5 (.cells #[.int .i64 y, .int .i64 m, .int .i64 d, .int .i64 h, .int .i64 mi, .int .i64 s1, .int .i64 z] 23))
            have n0_ := Lib.hid ((Below.heap_alloc x5 (.cells #[.int .i64 y, .int .i64 m, .int .i64 d, .int .i64 h, .int .i64 mi, .int .i64 s1, .int .i64 z] 23) _ (blk_lt HA.out)).trans HA.out)
            clear HA
            have HA := n0_
            clear n0_
            have HX := n1_
            clear n1_
            have n0_ := Lib.hid (below_alloc HB.out (.cells #[.int .i64 y, .int .i64 m, .int .i64 d, .int .i64 h, .int .i64 mi, .int .i64 s1, .int .i64 z] 23))
            clear HB
            have HB := n0_
            clear n0_
            generalize x5.alloc (.cells #[.int .i64 y, .int .i64 m, .int .i64 d, .int .i64 h, .int .i64 mi, .int .i64 s1, .int .i64 z] 23) = x6 at *
            generalize x5.heap.size = g1 at *
            go_wp2_with fail
            refine (moment_ReadHeader.calls (T22 ++ (⟨#[120]⟩ : ByteArray)) 0 0 0 0 0 0 0 20 _ RH1.out (laid_below HL.out (by repeat (first | (with_reducible exact HB.out) | (with_reducible apply below_drew) | (with_reducible apply pw_below_drewN) | exact HB.out)))).mono ?_
            rintro e x7 ⟨rfl, hb⟩
            have n0_ := Lib.hid (below_step (by repeat (first | (with_reducible exact HB.out) | (with_reducible apply below_drew) | (with_reducible apply pw_below_drewN) | exact HB.out)) hb)
            clear HB
            have HB := n0_
            clear n0_
            have n0_ := Lib.hid ((hb.block _ (blk_lt HA.out)).trans HA.out)
            clear HA
            have HA := n0_
            clear n0_
            have n0_ := Lib.hid ((hb.block _ (blk_lt HX.out)).trans HX.out)
            clear HX
            have HX := n0_
            clear n0_
            clear hb
            go_upto_region 25 with fail
            have n1_ := Lib.hid (heap_alloc_new x7 (.cells #[.int .i64 0, .int .i64 0, .int .i64 0, .int .i64 0, .int .i64 0, .int .i64 0, .int .i64 0] 23))
            have n0_ := Lib.hid ((Below.heap_alloc x7 (.cells #[.int .i64 0, .int .i64 0, .int .i64 0, .int .i64 0, .int .i64 0, .int .i64 0, .int .i64 0] 23) _ (blk_lt HA.out)).trans HA.out)
            clear HA
            have HA := n0_
            clear n0_
            have n0_ := Lib.hid ((Below.heap_alloc x7 (.cells #[.int .i64 0, .int .i64 0, .int .i64 0, .int .i64 0, .int .i64 0, .int .i64 0, .int .i64 0] 23) _ (blk_lt HX.out)).trans HX.out)
            clear HX
            have HX := n0_
            clear n0_
            have HY := n1_
            clear n1_
            have n0_ := Lib.hid (below_alloc HB.out (.cells #[.int .i64 0, .int .i64 0, .int .i64 0, .int .i64 0, .int .i64 0, .int .i64 0, .int .i64 0] 23))
            clear HB
            have HB := n0_
            clear n0_
            generalize x7.alloc (.cells #[.int .i64 0, .int .i64 0, .int .i64 0, .int .i64 0, .int .i64 0, .int .i64 0, .int .i64 0] 23) = x8 at *
            clear HY
            go_wp2_with fail
            refine (moment_ReadHeader.calls (T22 ++ (⟨#[40, 120]⟩ : ByteArray)) y m d h mi s1 z 0 _ RH2.out (laid_below HL.out (by repeat (first | (with_reducible exact HB.out) | (with_reducible apply below_drew) | (with_reducible apply pw_below_drewN) | exact HB.out)))).mono ?_
            rintro e x9 ⟨rfl, hb⟩
            have n0_ := Lib.hid (below_step (by repeat (first | (with_reducible exact HB.out) | (with_reducible apply below_drew) | (with_reducible apply pw_below_drewN) | exact HB.out)) hb)
            clear HB
            have HB := n0_
            clear n0_
            have n0_ := Lib.hid ((hb.block _ (blk_lt HA.out)).trans HA.out)
            clear HA
            have HA := n0_
            clear n0_
            have n0_ := Lib.hid ((hb.block _ (blk_lt HX.out)).trans HX.out)
            clear HX
            have HX := n0_
            clear n0_
            clear hb
            go_upto_region 26 with fail
            have n1_ := Lib.hid (heap_alloc_new x9 (.cells #[.int .i64 y, .int .i64 m, .int .i64 d, .int .i64 h, .int .i64 mi, .int .i64 s1, .int .i64 z] 23))
            have n0_ := Lib.hid ((Below.heap_alloc x9 (.cells #[.int .i64 y, .int .i64 m, .int .i64 d, .int .i64 h, .int .i64 mi, .int .i64 s1, .int .i64 z] 23) _ (blk_lt HA.out)).trans HA.out)
            clear HA
            have HA := n0_
            clear n0_
            have n0_ := Lib.hid ((Below.heap_alloc x9 (.cells #[.int .i64 y, .int .i64 m, .int .i64 d, .int .i64 h, .int .i64 mi, .int .i64 s1, .int .i64 z] 23) _ (blk_lt HX.out)).trans HX.out)
            clear HX
            have HX := n0_
            clear n0_
            have HZ := n1_
            clear n1_
            have n0_ := Lib.hid (below_alloc HB.out (.cells #[.int .i64 y, .int .i64 m, .int .i64 d, .int .i64 h, .int .i64 mi, .int .i64 s1, .int .i64 z] 23))
            clear HB
            have HB := n0_
            clear n0_
            generalize x9.alloc (.cells #[.int .i64 y, .int .i64 m, .int .i64 d, .int .i64 h, .int .i64 mi, .int .i64 s1, .int .i64 z] 23) = x10 at *
            clear HZ
            obtain ⟨⟨k0, k1, k2, k3, k4, k5, k6⟩, _⟩ := cells7 HA.out
            obtain ⟨⟨n0, n1, n2, n3, n4, n5, n6⟩, _⟩ := cells7 HX.out
            go_wp2
            go_ret
            exact ⟨rfl, HB.out⟩
def postbaglaw2_MomentGaps.f (_y _m _d _h _mi _s _z : Int) (l : List ByteArray) (_wk _sc : Bool) : Option Bool := if l.all (fun x => decide (x.size ≤ 140737488351232)) = true then some true else none
theorem postbaglaw2_MomentGaps.calls (a0_0 a0_1 a0_2 a0_3 a0_4 a0_5 a0_6 : Int) (A1 : Option Addr) (c1 : Nat) (l1 : List ByteArray) (a2 a3 : Bool) (r : Bool) (w : World) (hr1 : Kd.C Kd.string w A1 l1.length l1) (hc1 : l1.length ≤ c1)
    (h : postbaglaw2_MomentGaps.f a0_0 a0_1 a0_2 a0_3 a0_4 a0_5 a0_6 l1 a2 a3 = some r) (hL : Laid w) :
    Calls Tryd.prog 7 #[.agg #[.int .i64 a0_0, .int .i64 a0_1, .int .i64 a0_2, .int .i64 a0_3, .int .i64 a0_4, .int .i64 a0_5, .int .i64 a0_6], .slice A1 l1.length c1, .bool a2, .bool a3] w fun e w' => e = .returned (.bool r) ∧ Below w.heap.size w w' := by
  unfold postbaglaw2_MomentGaps.f at h
  by_cases hs : l1.all (fun x => decide (x.size ≤ 140737488351232)) = true
  · rw [if_pos hs] at h
    obtain rfl : true = r := Option.some.inj h
    exact gaps_calls _ _ _ _ _ _ _ A1 c1 l1 a2 a3 w hr1 hc1 (fun x hx => of_decide_eq_true (List.all_eq_true.1 hs x hx)) hL
  · rw [if_neg hs] at h
    exact absurd h (by simp)
end Go.Proofs.YtjlchnmpebdggaaDoor.Mo
end
section
namespace Go.Proofs.YtjlchnmpebdggaaDoor.Pure
open Go.Proofs.YtjlchnmpebdggaaDoor.Mo
theorem MomentGaps (x : S23) (l : List ByteArray) (a b : Bool) {P Q R Z : Prop} (_ : P) (h : (∀ x ∈ l, x.size ≤ 140737488351232) ∧ Z) (_ : Q) (_ : R) : postbaglaw2_MomentGaps.f x.f0 x.f1 x.f2 x.f3 x.f4 x.f5 x.f6 l a b = some true :=
  if_pos (List.all_eq_true.2 fun x hx => decide_eq_true (h.1 x hx))
end Go.Proofs.YtjlchnmpebdggaaDoor.Pure
end
section
namespace Go.Proofs.YtjlchnmpebdggaaDoor.Mo
open Go.ChangeShapes Go.WideShapes Go.ChangeAt Go.RowKit
theorem gLengths : Tryd.prog.globalNamed "postbag/moment.lengths" = some 0 := by kernel_rfl
theorem tLengths : (Tryd.prog.globals[0]?).map (·.type) = some 86 := by kernel_rfl
theorem door_met (os : Os) (args : Array Value) : laidMetH Tryd.prog [("postbag/moment.lengths", Rows.laid_postbag_moment_lengths)] ((World.doorLaid Tryd.prog 400 os).forCall (fun _ _ => 0) ⟨#[], args, []⟩).memory :=
  laidMetH_of_parts3 (fuel := 8) (laidMet_of_run' 8 (by kernel_rfl) (by kernel_rfl)) (by kernel_rfl) (by kernel_rfl)
theorem of_laid {W : World} (h : laidMetH Tryd.prog [("postbag/moment.lengths", Rows.laid_postbag_moment_lengths)] W) : Laid W := by
  rw [MakeChecks.laidMetH_plain _ _ _ (by kernel_rfl)] at h
  obtain ⟨ps, ⟨g1, t1, cs1, f1, p1, q1, hg1, ht1, hv1, hd1, _, _⟩, _, _⟩ := h
  obtain rfl := Option.some.inj (gLengths.symm.trans hg1)
  obtain rfl := Option.some.inj (tLengths.symm.trans ht1)
  obtain ⟨xs, m1, rfl, hx1, hlen, hn3, hel⟩ := DataW.trod_array Tryd.underlying86 hd1
  have c3 : Tryd.prog.cellsOf 3 = 1 := by kernel_rfl
  simp only [Prod.mk.injEq, Rows.laid_postbag_moment_lengths, DataW.agg.injEq] at hx1
  have hcell : ∀ j, j < 12 → W.cell? ⟨0, j, none⟩ = some (.int .i64 (monthDays.getD j 0)) := by
    intro j hj
    have hj1 : j < xs.length := by omega
    have he := hel j hj
    rw [List.getElem?_eq_getElem hj1] at he
    obtain ⟨k, e1, e2, _⟩ := DataW.trod_int Tryd.underlying3 he
    have e3 : (xs.map (·.1))[j]? = some (.lit (.int .i64 k)) := by rw [List.getElem?_map, List.getElem?_eq_getElem hj1, e2]; rfl
    rw [← hx1.1] at e3
    have hk : k = monthDays.getD j 0 := by
      have hc : j = 0 ∨ j = 1 ∨ j = 2 ∨ j = 3 ∨ j = 4 ∨ j = 5 ∨ j = 6 ∨ j = 7 ∨ j = 8 ∨ j = 9 ∨ j = 10 ∨ j = 11 := by omega
      rcases hc with rfl | rfl | rfl | rfl | rfl | rfl | rfl | rfl | rfl | rfl | rfl | rfl <;> (simp at e3; rw [← e3]; rfl)
    rw [World.var?_cell hg1 hv1 j]
    rw [c3, Nat.mul_one] at e1
    have e4 : (cs1.toList.drop j)[0]? = some (.int .i64 k) := by
      have := congrArg (fun l => l[0]?) e1
      simpa [List.getElem?_take] using this
    rw [List.getElem?_drop, Nat.add_zero, Array.getElem?_toList] at e4
    rw [e4, hk]
  refine ⟨?_, hcell⟩
  have := hcell 0 (by omega)
  exact World.block_lt_of_cell? W ⟨0, 0, none⟩ this
end Go.Proofs.YtjlchnmpebdggaaDoor.Mo
end
