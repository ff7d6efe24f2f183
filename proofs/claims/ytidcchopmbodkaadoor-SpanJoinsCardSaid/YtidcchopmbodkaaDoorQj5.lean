import Derived.Test.YtidcchopmbodkaaDoorQj2
import Derived.Test.YtidcchopmbodkaaDoorQj4
import Derived.Lib.Hide
import Derived.IntWalk
import Derived.Test.YtidcchopmbodkaaDoorQj3
import Derived.WalkMore
section
namespace Go.Proofs.YtidcchopmbodkaaDoor.Sp
open Go.RowKit Go.Proofs.YtidcchopmbodkaaDoorW.PrintWords Go.Proofs.YtidcchopmbodkaaDoorW.PrintLast Go.Proofs.YtidcchopmbodkaaDoorW.PrintMore
open Par
theorem ix_no (c : UInt8) (l : List UInt8) (h : c ∉ l) : Lib.indexByte l c = -1 := by
  induction l with
  | nil => rfl
  | cons d l ih =>
    simp only [List.mem_cons, not_or] at h
    unfold Lib.indexByte
    rw [if_neg (by simpa using fun e => h.1 e.symm), ih h.2]
    rfl
theorem ix_yes (c : UInt8) (p r : List UInt8) (h : c ∉ p) : Lib.indexByte (p ++ c :: r) c = p.length := by
  induction p with
  | nil => show Lib.indexByte (c :: r) c = 0; unfold Lib.indexByte; rw [if_pos (by simp)]
  | cons d p ih =>
    simp only [List.mem_cons, not_or] at h
    show Lib.indexByte (d :: (p ++ c :: r)) c = _
    unfold Lib.indexByte
    rw [if_neg (by simpa using fun e => h.1 e.symm), ih h.2, if_neg (by simp)]
    simp
def cut1 (c : UInt8) (s : ByteArray) : ByteArray := ⟨(cutB c s.data.toList).1.toArray⟩
def cut2 (c : UInt8) (s : ByteArray) : ByteArray := ⟨(cutB c s.data.toList).2.1.toArray⟩
def cut3 (c : UInt8) (s : ByteArray) : Bool := (cutB c s.data.toList).2.2
theorem bytes_ext {a b : ByteArray} (h : a.data.toList = b.data.toList) : a = b := by
  cases a; cases b; simp at h; subst h; rfl
theorem cut_cases (c : UInt8) (s : ByteArray) : (Lib.indexByte s.data.toList c = -1 ∧ cut1 c s = s ∧ cut2 c s = ⟨#[]⟩ ∧ cut3 c s = false) ∨
    (∃ i : Nat, Lib.indexByte s.data.toList c = i ∧ i < s.size ∧ cut1 c s = s.extract 0 i ∧ cut2 c s = s.extract (i + 1) s.size ∧ cut3 c s = true) := by
  rcases cut_is c s.data.toList with ⟨h1, h2, h3, h4⟩ | ⟨h1, h2, h3⟩
  · left
    refine ⟨ix_no c _ h4, ?_, ?_, h1⟩
    · apply bytes_ext; show (cutB c s.data.toList).1.toArray.toList = _; rw [h2]
    · show (⟨(cutB c s.data.toList).2.1.toArray⟩ : ByteArray) = _; rw [h3]
  · right
    generalize hp : (cutB c s.data.toList).1 = p at *
    generalize hr : (cutB c s.data.toList).2.1 = r at *
    have hlen : s.size = p.length + 1 + r.length := by
      have := congrArg List.length h2
      rw [Array.length_toList] at this
      simp only [List.length_append, List.length_cons] at this
      show s.data.size = _
      omega
    refine ⟨p.length, by rw [h2]; exact ix_yes c p r h3, by omega, ?_, ?_, h1⟩
    · apply bytes_ext
      show (cutB c s.data.toList).1.toArray.toList = _
      rw [hp]
      simp [ByteArray.data_extract, h2]
    · apply bytes_ext
      show (cutB c s.data.toList).2.1.toArray.toList = _
      rw [hr]
      simp only [ByteArray.data_extract, Array.toList_extract, h2, List.extract_eq_take_drop]
      have e : List.drop (p.length + 1) (p ++ c :: r) = r := by simp
      rw [e, List.take_of_length_le (by omega)]
set_option maxHeartbeats 1000000 in
theorem cutl_calls (c : UInt8) (s : ByteArray) (w : World) (hs : s.size ≤ maxLen) :
    Calls Tryd.prog 65 #[.string s, .string ⟨#[c]⟩] w fun e w' => e = .returned (.tuple #[.string (cut1 c s), .string (cut2 c s), .bool (cut3 c s)]) ∧ ∃ n, w' = w.drewN n := by
  unfold maxLen at hs
  rcases cut_cases c s with ⟨h1, h2, h3, h4⟩ | ⟨i, h1, h2, h3, h4, h5⟩
  · rw [h2, h3, h4]
    have hcon := Shl.stringslite_Index_one s c w
    rw [h1] at hcon
    clear h1 h2 h3 h4
    go_enter Tryd.func65, Tryd.ntmps65
    go_wp2_with (go_at_call 74; refine hcon.mono ?_; rintro e w' ⟨rfl, rfl⟩)
    go_ret3
    exact ⟨rfl, 0, rfl⟩
  · rw [h3, h4, h5]
    have hcon := Shl.stringslite_Index_one s c w
    rw [h1] at hcon
    clear h1 h3 h4 h5
    have hi : (0 : Int) ≤ (i : Int) := by omega
    have hi2 : (i : Int) ≤ (s.size : Int) := by omega
    have hw : IntKind.i64.wrap ((i : Int) + 1) = (i : Int) + 1 := IntWalk.i64_in _ (by omega)
    have hw0 : (0 : Int) ≤ (i : Int) + 1 := by omega
    have hw1 : (i : Int) + 1 ≤ (s.size : Int) := by omega
    go_enter Tryd.func65, Tryd.ntmps65
    go_wp2_with (go_at_call 74; refine hcon.mono ?_; rintro e w' ⟨rfl, rfl⟩)
    go_quiet (fail)
    go_wp2
    go_ret3
    exact ⟨rfl, _, rfl⟩
theorem cut_calls (c : UInt8) (s : ByteArray) (w : World) (hs : s.size ≤ maxLen) :
    Calls Tryd.prog 50 #[.string s, .string ⟨#[c]⟩] w fun e w' => e = .returned (.tuple #[.string (cut1 c s), .string (cut2 c s), .bool (cut3 c s)]) ∧ ∃ n, w' = w.drewN n := by
  have hcon := cutl_calls c s w hs
  clear hs
  go_enter Tryd.func50, Tryd.ntmps50
  go_wp2_with (go_at_call 65; refine hcon.mono ?_; rintro e w' ⟨rfl, n, rfl⟩)
  go_ret3
  exact ⟨rfl, _, rfl⟩
end Go.Proofs.YtidcchopmbodkaaDoor.Sp
end
section
namespace Go.Proofs.YtidcchopmbodkaaDoor.Sp
open Go.RowKit Go.Proofs.YtidcchopmbodkaaDoorW.PrintWords Go.Proofs.YtidcchopmbodkaaDoorW.PrintLast Go.Proofs.YtidcchopmbodkaaDoorW.PrintMore
attribute [local go_sem] max2_int min2_int max_two min_two max_three min_three max_four min_four   -- for this text's walks alone
set_option linter.unusedVariables false
set_option linter.unusedSimpArgs false
mutual
def span_end.j0 : Nat → ByteArray → Bool → Option (Int × Bool)
 | 0, _, _ => none
 | k + 1, x0, x19 => if x19 = true then (some (0, false)) else (span_end.l0 k x0 0 (x0.size : Int) 0)
def span_end.l0 : Nat → ByteArray → Int → Int → Int → Option (Int × Bool)
 | 0, _, _, _, _ => none
 | k + 1, x0, x4, x21, x22 => if x22 < x21 then (if 0 ≤ x22 then (if x22 < (x0.size : Int) then (if (bt x0 x22) < 48 then (some (0, false)) else (if (bt x0 x22) > 57 then (some (0, false)) else (span_end.l0 k x0 (wrap64 ((wrap64 (10 * x4)) + (((bt x0 x22) - 48) % 256))) x21 (wrap64 (x22 + 1))))) else (none)) else (none)) else (some (x4, decide (x4 ≤ 4294967295)))
end
def span_end.f (k : Nat) (a0 : ByteArray) : Option (Int × Bool) := if a0.toList = ([42] : List UInt8) then (some (0, true)) else (if a0.toList = ([] : List UInt8) then (span_end.j0 k a0 true) else (if 0 < (a0.size : Int) then (if (bt a0 0) = 48 then (span_end.j0 k a0 true) else (span_end.j0 k a0 (decide ((a0.size : Int) > 10)))) else (none)))
set_option maxHeartbeats 8000000 in
set_option maxRecDepth 100000 in
theorem span_end.calls (k : Nat) (a0 : ByteArray) (r1 : Int) (r2 : Bool) (w : World) (h : span_end.f k a0 = some (r1, r2)) :
  Calls Tryd.prog 51 #[.string a0] w fun e w' => e = .returned (.tuple #[.int .i64 r1, .bool r2]) ∧ Drawn0 w w' := by
 have H : (if a0.toList = ([42] : List UInt8) then (some (0, true)) else (if a0.toList = ([] : List UInt8) then (span_end.j0 k a0 true) else (if 0 < (a0.size : Int) then (if (bt a0 0) = 48 then (span_end.j0 k a0 true) else (span_end.j0 k a0 (decide ((a0.size : Int) > 10)))) else (none)))) = some (r1, r2) := h
 clear h
 by_cases c2 : a0.toList = ([42] : List UInt8)
 ·rw [if_pos c2] at H
  have c2b0 : (a0.toList == ([42] : List UInt8)) = true := beq_iff_eq.mpr c2
  have c2b1 : (a0.toList != ([42] : List UInt8)) = false := bne_eq_false_iff_eq.mpr c2
  clear c2
  simp only [Option.some.injEq, Prod.mk.injEq] at H
  obtain ⟨rfl, rfl⟩ := H
  go_enter Tryd.func51, Tryd.ntmps51
  go_wp2
  go_ret2
  exact ⟨by first | rfl | (simp; done) | (simp [*]; done), by repeat (first | exact Drawn0.refl _ | apply Drawn0.step)⟩
 ·rw [if_neg c2] at H
  have c2b0 : (a0.toList == ([42] : List UInt8)) = false := beq_eq_false_iff_ne.mpr c2
  have c2b1 : (a0.toList != ([42] : List UInt8)) = true := bne_iff_ne.mpr c2
  have HC3 := Aside0.mk H
  clear H
  go_enter Tryd.func51, Tryd.ntmps51
  go_upto_region 3 with (fail)
  go_cut [19] (fun v19 wc => ∃ (kq : Nat) (x19_2 : Bool), v19 = .bool x19_2 ∧ Aside0 (span_end.j0 kq a0 x19_2 = some (r1, r2)) ∧ Aside0 (kq ≤ k) ∧ Drawn0 w wc)
  case first =>
   have H := HC3.out
   clear HC3
   by_cases c4 : a0.toList = ([] : List UInt8)
   ·rw [if_pos c4] at H
    have c4b0 : (a0.toList == ([] : List UInt8)) = true := beq_iff_eq.mpr c4
    have c4b1 : (a0.toList != ([] : List UInt8)) = false := bne_eq_false_iff_eq.mpr c4
    clear c4
    (first | rw [c4b0] | (simp only [i64_w, i32_w]; rw [c4b0]) | skip)
    have H' := Aside0.mk H
    clear H
    go_wp2
    go_meet
    case rel => exact ⟨_, (true), (by first | rfl | (simp; done) | (simp [*]; done)), H', ⟨by first | omega | exact Nat.le_refl _⟩, by repeat (first | exact Drawn0.refl _ | apply Drawn0.step)⟩
   ·rw [if_neg c4] at H
    have c4b0 : (a0.toList == ([] : List UInt8)) = false := beq_eq_false_iff_ne.mpr c4
    have c4b1 : (a0.toList != ([] : List UInt8)) = true := bne_iff_ne.mpr c4
    (first | rw [c4b0] | (simp only [i64_w, i32_w]; rw [c4b0]) | skip)
    by_cases c5 : 0 < (a0.size : Int)
    ·rw [if_pos c5] at H
     have c5b0 : decide (0 < (a0.size : Int)) = true := decide_eq_true c5
     have c5b1 : decide (0 < a0.size) = true := decide_eq_true (by omega)
     clear c5
     by_cases c7 : (bt a0 0) = 48
     ·rw [if_pos c7] at H
      have c7b0 : ((bt a0 0) == 48) = true := beq_iff_eq.mpr c7
      have c7b1 : ((bt a0 0) != 48) = false := bne_eq_false_iff_eq.mpr c7
      clear c7
      have H' := Aside0.mk H
      clear H
      have p6 : 0 ≤ (0 : Int) := (by omega)
      have q6 : 0 < a0.size := (by have : (0 : Int) < (a0.size : Int) := of_decide_eq_true (by first | (with_reducible assumption) | assumption); omega)
      have hx6 : ∀ h : 0 < a0.size, ((a0[0]'h).toNat : Int) = bt a0 0 := bt_at a0 0
      clear p6
      have qi6 : (0 < (a0.size : Int)) = True := eq_true (of_decide_eq_true (by first | (with_reducible assumption) | assumption))
      replace q6 := eq_true q6
      go_wp2
      go_meet
      case rel => exact ⟨_, (true), (by first | rfl | (simp; done) | (simp [*]; done)), H', ⟨by first | omega | exact Nat.le_refl _⟩, by repeat (first | exact Drawn0.refl _ | apply Drawn0.step)⟩
     ·rw [if_neg c7] at H
      have c7b0 : ((bt a0 0) == 48) = false := beq_eq_false_iff_ne.mpr c7
      have c7b1 : ((bt a0 0) != 48) = true := bne_iff_ne.mpr c7
      have H' := Aside0.mk H
      clear H
      have p6 : 0 ≤ (0 : Int) := (by omega)
      have q6 : 0 < a0.size := (by have : (0 : Int) < (a0.size : Int) := of_decide_eq_true (by first | (with_reducible assumption) | assumption); omega)
      have hx6 : ∀ h : 0 < a0.size, ((a0[0]'h).toNat : Int) = bt a0 0 := bt_at a0 0
      clear p6
      have qi6 : (0 < (a0.size : Int)) = True := eq_true (of_decide_eq_true (by first | (with_reducible assumption) | assumption))
      replace q6 := eq_true q6
      go_wp2
      go_meet
      case rel => exact ⟨_, (decide ((a0.size : Int) > 10)), (by first | rfl | (simp; done) | (simp [*]; done)), H', ⟨by first | omega | exact Nat.le_refl _⟩, by repeat (first | exact Drawn0.refl _ | apply Drawn0.step)⟩
    ·rw [if_neg c5] at H
     exact absurd H (by simp)
  case rest =>
   clear HC3
   try clear c2
   try clear c2b0
   try clear c2b1
   try clear p2
   try clear c4
   try clear c4b0
   try clear c4b1
   try clear c5
   try clear c5b0
   try clear c5b1
   try clear p6
   try clear q6
   try clear hx6
   try clear qi6
   try clear c7
   try clear c7b0
   try clear c7b1
   try clear p6
   try clear q6
   obtain ⟨kq, x19_2, rfl, HA, HJ2, ⟨mc2, rfl⟩⟩ := hcut
   cases kq with
   | zero => exact absurd HA.out (by simp [span_end.j0])
   | succ kj2 =>
    have H := HA.out
    clear HA
    simp only [span_end.j0] at H
    by_cases c8 : x19_2 = true
    ·subst c8
     have H1 : (some (0, false)) = some (r1, r2) := by rw [if_pos rfl] at H; exact H
     clear H
     have H := H1
     clear H1
     simp only [Option.some.injEq, Prod.mk.injEq] at H
     obtain ⟨rfl, rfl⟩ := H
     go_wp2
     go_ret2
     exact ⟨by first | rfl | (simp; done) | (simp [*]; done), by repeat (first | exact Drawn0.refl _ | apply Drawn0.step)⟩
    ·replace c8 := Bool.eq_false_iff.mpr c8
     subst c8
     have H1 : (span_end.l0 kj2 a0 0 (a0.size : Int) 0) = some (r1, r2) := by rw [if_neg (show ¬ (false = true) by decide)] at H; exact H
     clear H
     have H := H1
     clear H1
     have H' := Aside0.mk H
     clear H
     go_wp2
     go_loopg [4, 22] kj2 (fun kq v4 v22 w' => ∃ (x4_2 : Int) (x22_2 : Int), v4 = .int .i64 x4_2 ∧ v22 = .int .i64 x22_2 ∧ Aside0 (span_end.l0 kq a0 x4_2 (a0.size : Int) x22_2 = some (r1, r2)) ∧ Aside0 (kq ≤ kj2) ∧ Drawn0 w w')
     case atStart => exact ⟨(0), (0), (by first | rfl | (simp; done) | (simp [*]; done)), (by first | rfl | (simp; done) | (simp [*]; done)), H', ⟨Nat.le_refl _⟩, by repeat (first | exact Drawn0.refl _ | apply Drawn0.step)⟩
     case round =>
      clear H'
      try clear c2
      try clear c2b0
      try clear c2b1
      try clear p2
      try clear c4
      try clear c4b0
      try clear c4b1
      try clear c5
      try clear c5b0
      try clear c5b1
      try clear p6
      try clear q6
      try clear hx6
      try clear qi6
      try clear c7
      try clear c7b0
      try clear c7b1
      try clear c8
      try clear p2
      try clear p6
      try clear q6
      obtain ⟨x4_2, x22_2, rfl, rfl, HA, HK2, ⟨m2, rfl⟩⟩ := hrel
      cases gk with
      | zero => exact absurd HA.out (by simp [span_end.l0])
      | succ k2 =>
       have H := HA.out
       clear HA
       simp only [span_end.l0] at H
       by_cases c9 : x22_2 < (a0.size : Int)
       ·rw [if_pos c9] at H
        have c9b0 : decide (x22_2 < (a0.size : Int)) = true := decide_eq_true c9
        clear c9
        by_cases c10 : 0 ≤ x22_2
        ·rw [if_pos c10] at H
         have c10b0 : decide (0 ≤ x22_2) = true := decide_eq_true c10
         clear c10
         by_cases c11 : x22_2 < (a0.size : Int)
         ·rw [if_pos c11] at H
          have c11b0 : decide (x22_2 < (a0.size : Int)) = true := decide_eq_true c11
          clear c11
          by_cases c13 : (bt a0 x22_2) < 48
          ·rw [if_pos c13] at H
           have c13b0 : decide ((bt a0 x22_2) < 48) = true := decide_eq_true c13
           clear c13
           simp only [Option.some.injEq, Prod.mk.injEq] at H
           obtain ⟨rfl, rfl⟩ := H
           have p12 : 0 ≤ (x22_2 : Int) := of_decide_eq_true (by first | (with_reducible assumption) | assumption)
           have q12 : x22_2 < (a0.size : Int) := of_decide_eq_true (by first | (with_reducible assumption) | assumption)
           have hx12 := bt_at a0 x22_2
           replace p12 := eq_true p12
           replace q12 := eq_true q12
           go_wp2
           go_ret2
           exact ⟨by first | rfl | (simp; done) | (simp [*]; done), by repeat (first | exact Drawn0.refl _ | apply Drawn0.step)⟩
          ·rw [if_neg c13] at H
           have c13b0 : decide ((bt a0 x22_2) < 48) = false := decide_eq_false c13
           clear c13
           by_cases c15 : (bt a0 x22_2) > 57
           ·rw [if_pos c15] at H
            have c15b0 : decide (57 < (bt a0 x22_2)) = true := decide_eq_true c15
            clear c15
            simp only [Option.some.injEq, Prod.mk.injEq] at H
            obtain ⟨rfl, rfl⟩ := H
            have p12 : 0 ≤ (x22_2 : Int) := of_decide_eq_true (by first | (with_reducible assumption) | assumption)
            have q12 : x22_2 < (a0.size : Int) := of_decide_eq_true (by first | (with_reducible assumption) | assumption)
            have hx12 := bt_at a0 x22_2
            replace p12 := eq_true p12
            replace q12 := eq_true q12
            have p14 : 0 ≤ (x22_2 : Int) := of_decide_eq_true (by first | (with_reducible assumption) | assumption)
            have q14 : x22_2 < (a0.size : Int) := of_decide_eq_true (by first | (with_reducible assumption) | assumption)
            have hx14 := bt_at a0 x22_2
            replace p14 := eq_true p14
            replace q14 := eq_true q14
            go_wp2
            go_ret2
            exact ⟨by first | rfl | (simp; done) | (simp [*]; done), by repeat (first | exact Drawn0.refl _ | apply Drawn0.step)⟩
           ·rw [if_neg c15] at H
            have c15b0 : decide (57 < (bt a0 x22_2)) = false := decide_eq_false c15
            clear c15
            have H' := Aside0.mk H
            clear H
            have p12 : 0 ≤ (x22_2 : Int) := of_decide_eq_true (by first | (with_reducible assumption) | assumption)
            have q12 : x22_2 < (a0.size : Int) := of_decide_eq_true (by first | (with_reducible assumption) | assumption)
            have hx12 := bt_at a0 x22_2
            replace p12 := eq_true p12
            replace q12 := eq_true q12
            have p14 : 0 ≤ (x22_2 : Int) := of_decide_eq_true (by first | (with_reducible assumption) | assumption)
            have q14 : x22_2 < (a0.size : Int) := of_decide_eq_true (by first | (with_reducible assumption) | assumption)
            have hx14 := bt_at a0 x22_2
            replace p14 := eq_true p14
            replace q14 := eq_true q14
            have p16 : 0 ≤ (x22_2 : Int) := of_decide_eq_true (by first | (with_reducible assumption) | assumption)
            have q16 : x22_2 < (a0.size : Int) := of_decide_eq_true (by first | (with_reducible assumption) | assumption)
            have hx16 := bt_at a0 x22_2
            replace p16 := eq_true p16
            replace q16 := eq_true q16
            go_wp2
            go_roundg k2
            case measure => have := HJ2.out; have := HK2.out; omega
            case rel => exact ⟨(wrap64 ((wrap64 (10 * x4_2)) + (((bt a0 x22_2) - 48) % 256))), (wrap64 (x22_2 + 1)), (by first | rfl | (simp; done) | (simp [*]; done)), (by first | rfl | (simp; done) | (simp [*]; done)), H', ⟨by have := HJ2.out; have := HK2.out; omega⟩, by repeat (first | exact Drawn0.refl _ | apply Drawn0.step)⟩
         ·rw [if_neg c11] at H
          exact absurd H (by simp)
        ·rw [if_neg c10] at H
         exact absurd H (by simp)
       ·rw [if_neg c9] at H
        have c9b0 : decide (x22_2 < (a0.size : Int)) = false := decide_eq_false c9
        clear c9
        simp only [Option.some.injEq, Prod.mk.injEq] at H
        obtain ⟨rfl, rfl⟩ := H
        go_wp2
        go_ret2
        exact ⟨by first | rfl | (simp; done) | (simp [*]; done), by repeat (first | exact Drawn0.refl _ | apply Drawn0.step)⟩
end Go.Proofs.YtidcchopmbodkaaDoor.Sp
end
section
namespace Go.Proofs.YtidcchopmbodkaaDoor.Sp
open Go.RowKit Go.Proofs.YtidcchopmbodkaaDoorW.PrintWords Go.Proofs.YtidcchopmbodkaaDoorW.PrintLast Go.Proofs.YtidcchopmbodkaaDoorW.PrintMore
open Par
theorem bt_list (s : ByteArray) (i : Nat) (h : i < s.size) : ∃ c, s.data.toList[i]? = some c ∧ bt s (i : Int) = (c.toNat : Int) := by
  refine ⟨s[i], ?_, ?_⟩
  · rw [Array.getElem?_toList]
    exact Array.getElem?_eq_getElem h
  · unfold bt
    rw [dif_pos (by simpa using h)]
    rfl
theorem toList_is (s : ByteArray) : s.toList = s.data.toList := ByteArray.toList_eq s
theorem end_l0 (t : ByteArray) (hn : t.size ≤ 10) (d : Nat) : ∀ (i m k : Nat), i + d = t.size → m < 10 ^ i → d < k →
    span_end.l0 k t m t.size i = some (if (t.data.toList.drop i).all dig then (((valF m (t.data.toList.drop i) : Nat) : Int), decide (((valF m (t.data.toList.drop i) : Nat) : Int) ≤ 4294967295)) else (0, false)) := by
  have hl : t.data.toList.length = t.size := Array.length_toList
  induction d with
  | zero =>
    intro i m k hi hm hk
    obtain ⟨k, rfl⟩ : ∃ j, k = j + 1 := ⟨k - 1, by omega⟩
    rw [List.drop_of_length_le (by omega)]
    simp only [span_end.l0]
    rw [if_neg (by omega)]
    rfl
  | succ d ih =>
    intro i m k hi hm hk
    obtain ⟨k, rfl⟩ : ∃ j, k = j + 1 := ⟨k - 1, by omega⟩
    obtain ⟨c, hc, hb⟩ := bt_list t i (by omega)
    have hd : t.data.toList.drop i = c :: t.data.toList.drop (i + 1) := by
      rw [List.drop_eq_getElem_cons (by omega)]
      congr 1
      have := List.getElem?_eq_getElem (l := t.data.toList) (i := i) (by omega)
      rw [this] at hc
      exact Option.some.inj hc
    have hp : 10 ^ (i + 1) ≤ 10 ^ 10 := Nat.pow_le_pow_right (by omega) (by omega)
    have hp1 : 10 ^ (i + 1) = 10 ^ i * 10 := Nat.pow_succ _ _
    have hc256 : c.toNat < 256 := c.toNat_lt
    simp only [span_end.l0]
    rw [if_pos (by omega), if_pos (by omega), if_pos (by omega), hb, hd]
    by_cases h1 : (c.toNat : Int) < 48
    · have hdg : dig c = false := by rw [Bool.eq_false_iff]; intro h; rw [dig_iff] at h; omega
      rw [if_pos h1]; simp [hdg]
    · rw [if_neg h1]
      by_cases h2 : (c.toNat : Int) > 57
      · have hdg : dig c = false := by rw [Bool.eq_false_iff]; intro h; rw [dig_iff] at h; omega
        rw [if_pos h2]; simp [hdg]
      · have hdg : dig c = true := by rw [dig_iff]; omega
        rw [if_neg h2]
        have hm2 : 10 * m + (c.toNat - 48) < 10 ^ (i + 1) := by omega
        have e1 : wrap64 ((wrap64 (10 * (m : Int))) + (((c.toNat : Int) - 48) % 256)) = ((10 * m + (c.toNat - 48) : Nat) : Int) := by
          rw [show ((c.toNat : Int) - 48) % 256 = ((c.toNat - 48 : Nat) : Int) from by omega, show wrap64 (10 * (m : Int)) = 10 * (m : Int) from by unfold wrap64; omega]
          unfold wrap64; omega
        have e2 : wrap64 ((i : Int) + 1) = ((i + 1 : Nat) : Int) := by unfold wrap64; omega
        rw [e1, e2, ih (i + 1) _ k (by omega) hm2 (by omega)]
        simp only [List.all_cons, hdg, Bool.true_and]
        rfl
def endA (t : List UInt8) : Int × Bool := match endP t with
  | some n => ((n : Int), true)
  | none => (if t = [] then 0 else if t.head? = some 48 then 0 else if 10 < t.length then 0 else if t.all dig then ((val t : Nat) : Int) else 0, false)
theorem end_f (t : ByteArray) (k : Nat) (hk : 13 ≤ k) : span_end.f k t = some (endA t.data.toList) := by
  obtain ⟨k, rfl⟩ : ∃ j, k = j + 1 := ⟨k - 1, by omega⟩
  have hl : t.data.toList.length = t.size := Array.length_toList
  unfold span_end.f
  rw [toList_is]
  by_cases h1 : t.data.toList = [42]
  · rw [if_pos h1, h1]; rfl
  · rw [if_neg h1]
    by_cases h2 : t.data.toList = []
    · rw [if_pos h2, h2]; simp only [span_end.j0]; rfl
    · have hp : 0 < t.size := by
        rcases Nat.eq_zero_or_pos t.size with h | h
        · rw [← hl] at h; exact absurd (List.length_eq_zero_iff.1 h) h2
        · exact h
      obtain ⟨c, hc, hb⟩ := bt_list t 0 hp
      have hh : t.data.toList.head? = some c := by rw [List.head?_eq_getElem?]; exact hc
      rw [if_neg h2, if_pos (by omega), show bt t 0 = (c.toNat : Int) from hb]
      by_cases h3 : c = 48
      · subst h3
        rw [if_pos (by decide)]
        simp only [span_end.j0]
        unfold endA endP
        rw [if_neg h1, if_neg h2, if_pos hh]
        simp only [if_neg h2, if_pos hh, if_true]
      · have h3' : c.toNat ≠ 48 := fun e => h3 ((byte_eq c 48 (by omega)).2 e)
        have hh' : ¬ t.data.toList.head? = some 48 := by rw [hh]; intro e; injection e with e; exact h3 e
        rw [if_neg (by omega : ¬ (c.toNat : Int) = 48)]
        by_cases h4 : 10 < t.size
        · rw [decide_eq_true (by omega : ((t.size : Int) > 10))]
          simp only [span_end.j0]
          unfold endA endP
          rw [if_neg h1, if_neg h2, if_neg hh', if_pos (show 10 < t.data.toList.length by omega)]
          rw [if_pos trivial]
          simp only [if_neg h2, if_neg hh', if_pos (show 10 < t.data.toList.length by omega)]
        · rw [decide_eq_false (by omega : ¬ ((t.size : Int) > 10))]
          simp only [span_end.j0]
          rw [if_neg (by simp)]
          have h5 := end_l0 t (by omega) t.size 0 0 k (by omega) (by omega) (by omega)
          rw [List.drop_zero] at h5
          refine Eq.trans h5 ?_
          unfold endA endP
          rw [if_neg h1, if_neg h2, if_neg hh', if_neg (show ¬ 10 < t.data.toList.length by omega)]
          simp only [if_neg h2, if_neg hh', if_neg (show ¬ 10 < t.data.toList.length by omega)]
          by_cases h6 : t.data.toList.all dig
          · simp only [if_pos h6]
            show some (((val t.data.toList : Nat) : Int), decide (((val t.data.toList : Nat) : Int) ≤ 4294967295)) = _
            by_cases h7 : val t.data.toList ≤ 4294967295
            · rw [if_pos h7, decide_eq_true (by omega)]
            · rw [if_neg h7, decide_eq_false (by omega)]
          · simp only [if_neg h6]
theorem endA_some {t : List UInt8} {n : Nat} (h : endP t = some n) : endA t = ((n : Int), true) := by unfold endA; rw [h]
theorem endA_none {t : List UInt8} (h : endP t = none) : (endA t).2 = false := by unfold endA; rw [h]
theorem endP_le {t : List UInt8} {n : Nat} (h : endP t = some n) : n ≤ 4294967295 := by
  unfold endP at h
  repeat' split at h
  all_goals first | (injection h with h; subst h; first | omega | assumption) | cases h
end Go.Proofs.YtidcchopmbodkaaDoor.Sp
end
section
namespace Go.Proofs.YtidcchopmbodkaaDoor.Sp
open Go.RowKit Go.Proofs.YtidcchopmbodkaaDoorW.PrintWords Go.Proofs.YtidcchopmbodkaaDoorW.PrintLast Go.Proofs.YtidcchopmbodkaaDoorW.PrintMore
open Par Canon
def finA : Option (List Rg) → List S28 × Int
  | none => ([], 40)
  | some l => if 64 < l.length then ([], 41) else (l.map un, 0)
def parseA (a0 : ByteArray) : List S28 × Int := if 4096 < a0.size then ([], 2) else finA (manyP (a0.size + 1) a0.data.toList)
def mz (s m : Value) : Nat := match m with
  | .bool true => (match s with
    | .string b => b.size + 1
    | _ => 0)
  | _ => 0
theorem mz_t (b : ByteArray) : mz (.string b) (.bool true) = b.size + 1 := rfl
theorem mz_f (b : ByteArray) : mz (.string b) (.bool false) = 0 := rfl
theorem manyP_succ (k : Nat) (u : List UInt8) : manyP (k + 1) u = (oneP (cutB 44 u).1).bind fun r => if (cutB 44 u).2.2 = true then (manyP k (cutB 44 u).2.1).map (r :: ·) else some [r] := rfl
theorem many_fuel (k : Nat) : ∀ (j : Nat) (u : List UInt8), u.length < k → u.length < j → manyP k u = manyP j u := by
  induction k with
  | zero => intro j u h; omega
  | succ k ih =>
    intro j u hk hj
    obtain ⟨j, rfl⟩ : ∃ i, j = i + 1 := ⟨j - 1, by omega⟩
    rw [manyP_succ, manyP_succ]
    rcases cut_is 44 u with ⟨h1, _⟩ | ⟨h1, h2, _⟩
    · simp [h1]
    · have hl : u.length = (cutB 44 u).1.length + 1 + (cutB 44 u).2.1.length := by
        have := congrArg List.length h2
        simp only [List.length_append, List.length_cons] at this
        omega
      rw [ih j (cutB 44 u).2.1 (by omega) (by omega)]
theorem oneP_eq (p : ByteArray) : oneP p.data.toList = (endP (cut1 58 p).data.toList).bind fun a => if cut3 58 p = false then some ((a : Int), (a : Int)) else (endP (cut1 58 (cut2 58 p)).data.toList).bind fun b => if cut3 58 (cut2 58 p) = false then some ((a : Int), (b : Int)) else none := rfl
theorem step_M (u : ByteArray) (acc : List Rg) (k : Nat) (hk : u.size ≤ k) : (manyP (k + 1) u.data.toList).map (acc ++ ·) =
    match oneP (cut1 44 u).data.toList with
    | none => none
    | some r => if cut3 44 u = true then (manyP ((cut2 44 u).size + 1) (cut2 44 u).data.toList).map (acc ++ [r] ++ ·) else some (acc ++ [r]) := by
  rw [manyP_succ]
  show ((oneP (cut1 44 u).data.toList).bind _).map _ = _
  cases oneP (cut1 44 u).data.toList with
  | none => rfl
  | some r =>
    show (if cut3 44 u = true then (manyP k (cut2 44 u).data.toList).map (r :: ·) else some [r]).map _ = _
    by_cases h : cut3 44 u = true
    · rw [if_pos h]
      show _ = if cut3 44 u = true then _ else _
      rw [if_pos h]
      rcases cut_cases 44 u with ⟨_, _, _, h4⟩ | ⟨i, _, hi, _, h4, _⟩
      · rw [h4] at h; cases h
      · have hs : (cut2 44 u).data.toList.length = (cut2 44 u).size := Array.length_toList
        have hs2 : (cut2 44 u).size = u.size - (i + 1) := by rw [h4]; simp
        rw [many_fuel k ((cut2 44 u).size + 1) _ (by omega) (by omega), Option.map_map]
        congr 1
        funext x
        simp
    · rw [if_neg h]
      show _ = if cut3 44 u = true then _ else _
      rw [if_neg h]
      rfl
theorem two_at (x y : Value) (W : World) (n : Nat) (hn : n = W.heap.size) : ∀ (j : Nat) (u : Value), [x, y][j]? = some u → (W.alloc (.cells #[x, y] 28)).cell? (Addr.add ⟨n, 0, none⟩ j) = some u := by
  intro j u hu
  subst hn
  have hj : j < 2 := (List.getElem?_eq_some_iff.1 hu).1
  rcases (by omega : j = 0 ∨ j = 1) with rfl | rfl
  · rw [← hu]; simp [Addr.add]
  · rw [← hu]; simp [Addr.add]
set_option maxHeartbeats 400000 in
set_option maxRecDepth 100000 in
theorem parse_calls (a0 : ByteArray) (w : World) :
    Calls Tryd.prog 23 #[.string a0] w fun e w' => ∃ v0_ : Value, e = .returned (.tuple #[v0_, .int .i64 (parseA a0).2]) ∧ w'.ownsRow w.heap.size 28 2 v0_ (parseA a0).1.length (flat (parseA a0).1) ∧ Below w.heap.size w w' := by
  by_cases h1 : 4096 < a0.size
  · have e : parseA a0 = ([], 2) := by unfold parseA; rw [if_pos h1]
    rw [e]
    have d1 : decide ((4096 : Int) < (a0.size : Int)) = true := decide_eq_true (by omega)
    clear e
    go_enter Tryd.func23, Tryd.ntmps23
    go_wp2_with fail
    go_step3
    go_wp2_with fail
    (try simp only [Exit.noGoto])
    go_ret2
    exact ⟨_, rfl, own_nil _ _ _ _, Below.refl _ _⟩
  · obtain ⟨P, hP⟩ : ∃ P, P = parseA a0 := ⟨_, rfl⟩
    obtain ⟨M, hM⟩ : ∃ M, M = manyP (a0.size + 1) a0.data.toList := ⟨_, rfl⟩
    have hPM : P = finA M := by rw [hP, hM]; unfold parseA; rw [if_neg h1]
    rw [← hP]
    have HM := Lib.hid hM
    have HPM := Lib.hid hPM
    clear hP hM hPM
    have d1 : decide ((4096 : Int) < (a0.size : Int)) = false := decide_eq_false (by omega)
    go_enter Tryd.func23, Tryd.ntmps23
    go_wp2_with fail
    go_step3
    go_wp2_with fail
    obtain ⟨i0, hi0, hz⟩ := info28x
    have HI := Lib.hid hi0
    have HZ := Lib.hid hz
    have HW := Lib.hid (Below.refl w.heap.size w)
    clear hi0 hz
    go_step3
    go_wp2_with fail
    go_loopg [0, 4, 5] (a0.size + 1) (fun n s o m W => ∃ (u : ByteArray) (acc : List S28) (b : Bool), n = mz s m ∧ s = .string u ∧ m = .bool b ∧ Aside0 (W.ownsRow w.heap.size 28 2 o acc.length (flat acc)) ∧ Aside0 (Below w.heap.size w W) ∧
      acc.length + u.size ≤ a0.size + 1 ∧ u.size ≤ 4096 ∧ Aside0 (M = if b = true then (manyP (u.size + 1) u.data.toList).map (acc.map pr ++ ·) else some (acc.map pr)) ∧ Aside0 (b = true → acc.length + u.size ≤ a0.size))
    case atStart => exact ⟨a0, [], true, rfl, rfl, rfl, ⟨own_nil _ _ _ _⟩, ⟨HW.out⟩, by simp, by omega, ⟨by rw [if_pos rfl, HM.out]; simp⟩, ⟨fun _ => by simp⟩⟩
    case round =>
      obtain ⟨u, acc, b, hn, rfl, rfl, ho, hB, hau, hu, hMM, hbb⟩ := hrel
      cases b with
      | false =>
        have hMs := hMM.out
        rw [if_neg (by simp)] at hMs
        have hm : (acc.map pr).map un = acc := by rw [List.map_map]; exact (List.map_congr_left fun x _ => rfl).trans (List.map_id acc)
        obtain ⟨A4, c4, rfl⟩ := own_slice ho.out
        by_cases h64 : 64 < acc.length
        · have hPP : P = ([], 41) := by
            rw [HPM.out, hMs]
            show (if 64 < (acc.map pr).length then _ else _) = _
            rw [if_pos (by rw [List.length_map]; exact h64)]
          have d2 : decide ((64 : Int) < (acc.length : Int)) = true := decide_eq_true (by omega)
          clear hMM hMs HPM hm hbb
          subst hPP
          go_wp2_with fail
          (try simp only [Exit.noGoto])
          go_ret2
          exact ⟨_, rfl, own_nil _ _ _ _, hB.out⟩
        · have hPP : P = (acc, 0) := by
            rw [HPM.out, hMs]
            show (if 64 < (acc.map pr).length then _ else _) = _
            rw [if_neg (by rw [List.length_map]; exact h64), hm]
          have d2 : decide ((64 : Int) < (acc.length : Int)) = false := decide_eq_false (by omega)
          clear hMM hMs HPM hm hbb
          subst hPP
          go_wp2_with fail
          (try simp only [Exit.noGoto])
          go_ret2
          exact ⟨_, rfl, ho.out, hB.out⟩
      | true =>
        have hau' := hbb.out rfl
        have hMs := hMM.out
        rw [if_pos rfl, step_M u _ u.size (Nat.le_refl _), oneP_eq] at hMs
        have HMS := Lib.hid hMs
        clear hMM hbb hMs
        have HC := Lib.hid (cut_cases 44 u)
        have hcs : (cut2 44 u).size ≤ u.size ∧ (cut3 44 u = true → (cut2 44 u).size + 1 ≤ u.size) ∧ mz (.string (cut2 44 u)) (.bool (cut3 44 u)) < u.size + 1 := by
          rcases HC.out with ⟨_, _, h3, h4⟩ | ⟨i, _, hi, _, h, h4⟩
          · rw [h3, h4]; exact ⟨Nat.zero_le _, fun h => by simp at h, by rw [mz_f]; omega⟩
          · rw [h, h4, mz_t]; simp; omega
        obtain ⟨hcs1, hcs2, hcs3⟩ := hcs
        have HCS2 := Lib.hid hcs2
        clear hcs2
        have hps : (cut1 44 u).size ≤ 4096 := by
          rcases HC.out with ⟨_, h, _, _⟩ | ⟨i, _, hi, h, _, _⟩
          · rw [h]; exact hu
          · rw [h]; simp; omega
        have hbs : (cut2 58 (cut1 44 u)).size ≤ 4096 := by
          rcases cut_cases 58 (cut1 44 u) with ⟨_, _, h, _⟩ | ⟨i, _, hi, _, h, _⟩
          · rw [h]; exact Nat.zero_le _
          · rw [h]; simp; omega
        go_wp2_with (go_at_call 50; refine (cut_calls 44 u _ (by unfold maxLen; omega)).mono ?_; rintro e w' ⟨rfl, n1, rfl⟩)
        have ho1 := own_alloc (pw_own_drewN ho.out n1) (.cells #[.int .i64 0, .int .i64 0] 73)
        have hb1 := below_alloc (pw_below_drewN hB.out n1) (.cells #[.int .i64 0, .int .i64 0] 73)
        have hq0 : w.heap.size ≤ wr.heap.size := hB.out.size
        have hh1 : ((wr.drewN n1).alloc (.cells #[.int .i64 0, .int .i64 0] 73)).heap[wr.heap.size]? = some (.cells #[.int .i64 0, .int .i64 0] 73 (0, 0)) := heap_alloc_new _ _
        obtain ⟨W1, hW1⟩ : ∃ W1, W1 = ((wr.drewN n1).alloc (.cells #[.int .i64 0, .int .i64 0] 73)) := ⟨_, rfl⟩
        rw [← hW1] at ho1 hb1 hh1
        rw [← hW1]
        have HO1 := Lib.hid ho1
        have HB1 := Lib.hid hb1
        generalize wr.heap.size = q at *
        have HH1 := Lib.hid hh1
        clear hW1 ho1 hb1 hh1 ho hB
        generalize hp : cut1 44 u = p at *
        have HP := Lib.hid hp
        clear hp
        have he := end_f (cut1 58 p) 13 (by omega)
        cases hE : endP (cut1 58 p).data.toList with
        | none =>
          rw [hE] at HMS
          obtain ⟨r1, hr⟩ : ∃ r1, endA (cut1 58 p).data.toList = (r1, false) := ⟨_, Prod.ext rfl (endA_none hE)⟩
          rw [hr] at he
          have hPP : P = ([], 40) := by rw [HPM.out, HMS.out]; rfl
          clear HMS HPM hr hE
          subst hPP
          refine wp_loop_rounds 3 ?_
          rw [rounds_succ]
          go_wp2_with (first | (go_at_call 50; refine (cut_calls 58 p _ (by unfold maxLen; omega)).mono ?_; rintro e w' ⟨rfl, n2, rfl⟩) | (go_at_call 51; refine (span_end.calls 13 _ _ _ _ he).mono ?_; rintro e w' ⟨rfl, hd⟩; obtain ⟨n3, rfl⟩ := hd.out))
          (try simp only [Exit.noGoto])
          go_ret2
          exact ⟨_, rfl, own_nil _ _ _ _, pw_below_drewN HB1.out _⟩
        | some a =>
          rw [endA_some hE] at he
          rw [hE] at HMS
          have ha := endP_le hE
          have c0 : W1.cell? ⟨q, 0, none⟩ = some (.int .i64 0) := cell_of_row W1 q 0 _ _ _ HH1.out
          have f0 : W1.frozen? ⟨q, 0, none⟩ = false := frozen_of_row W1 q 0 _ _ HH1.out
          have hqW : q < W1.heap.size := (Array.getElem?_eq_some_iff.1 HH1.out).1
          have hne := own_ne HO1.out HH1.out (by decide)
          obtain ⟨A4, c4, rfl⟩ := own_slice HO1.out
          clear hE
          cases hS : cut3 58 p with
          | false =>
            have HS := Lib.hid hS
            clear hS
            refine wp_loop_rounds 3 ?_
            rw [rounds_succ]
            go_upto_region 17 with (first | (go_at_call 50; refine (cut_calls 58 p _ (by unfold maxLen; omega)).mono ?_; rintro e w' ⟨rfl, n2, rfl⟩; rw [HS.out]) | (go_at_call 51; refine (span_end.calls 13 _ _ _ _ he).mono ?_; rintro e w' ⟨rfl, hd⟩; obtain ⟨n3, rfl⟩ := hd.out))
            have ho2 := own_setCell (p := ⟨q, 0, none⟩) (pw_own_drewN HO1.out (n2 + n3)) hne (.int .i64 (a : Int))
            have hb2 := (pw_below_drewN HB1.out (n2 + n3)).setCell (p := ⟨q, 0, none⟩) hq0 (.int .i64 (a : Int))
            have hh2 := heap_setCell_same (W1.drewN (n2 + n3)) q 0 _ _ (.int .i64 (a : Int)) HH1.out
            obtain ⟨W2, hW2⟩ : ∃ W2, W2 = (W1.drewN (n2 + n3)).setCell ⟨q, 0, none⟩ (.int .i64 (a : Int)) := ⟨_, rfl⟩
            rw [← hW2] at ho2 hb2 hh2
            rw [← hW2]
            have k0 : W2.cell? ⟨q, 0, none⟩ = some (.int .i64 (a : Int)) := cell_of_row W2 q 0 _ _ _ hh2
            have HO2 := Lib.hid ho2
            have HB2 := Lib.hid hb2
            have hb2s := hb2.size
            clear hW2 ho2 hb2 hh2 c0 f0 hqW hne HO1 HB1 HH1 he
            go_wp2_with (at_builtin; go_loud (refine wpList_append_own _ rfl _ _ 23 rfl w.heap.size 28 i0 _ 2 16 Tryd.underlying23 HI.out HZ.out.1 HZ.out.2.1 HZ.out.2.2 rfl (by decide) (.slice A4 acc.length c4) acc.length (flat acc) (by rfl) (own_alloc HO2.out _) ⟨W2.heap.size, 0, none⟩ 1 1 [.int .i64 (a : Int), .int .i64 (a : Int)] (by rfl) (by rfl) (two_at _ _ _ _ rfl) (by exact flat_one [⟨a, a⟩]) (by unfold maxLen; omega) (by omega) (by simp; omega) ?_))
            intro v' W3 hown3 hgrow _
            have HO3 := Lib.hid hown3
            have HB3 := Lib.hid (pw_below_grown (below_alloc HB2.out (.cells #[.int .i64 (a : Int), .int .i64 (a : Int)] 28)) _ (by simp; omega) hgrow (fun k hk => own_base HO2.out k hk))
            clear hown3 hgrow HO2 HB2 k0 hb2s
            go_wp2
            go_roundg (mz (.string (cut2 44 u)) (.bool (cut3 44 u)))
            case measure => rw [hn, mz_t]; exact hcs3
            case rel =>
              refine ⟨cut2 44 u, acc ++ [⟨a, a⟩], cut3 44 u, rfl, rfl, rfl, ⟨by rw [flat_append, List.length_append]; exact HO3.out⟩, ⟨HB3.out⟩, by rw [List.length_append]; simp; omega, by omega, ⟨?_⟩, ⟨fun h => by rw [List.length_append]; have := HCS2.out h; simp; omega⟩⟩
              rw [HMS.out, HS.out, List.map_append]
              rfl
          | true =>
            have HS := Lib.hid hS
            clear hS
            have he2 := end_f (cut1 58 (cut2 58 p)) 13 (by omega)
            refine wp_loop_rounds 3 ?_
            rw [rounds_succ]
            go_upto_region 17 with (first | (go_at_call 50; refine (cut_calls 58 p _ (by unfold maxLen; omega)).mono ?_; rintro e w' ⟨rfl, n2, rfl⟩; rw [HS.out]) | (go_at_call 51; refine (span_end.calls 13 _ _ _ _ he).mono ?_; rintro e w' ⟨rfl, hd⟩; obtain ⟨n3, rfl⟩ := hd.out))
            have ho2 := own_setCell (p := ⟨q, 0, none⟩) (pw_own_drewN HO1.out (n2 + n3)) hne (.int .i64 (a : Int))
            have hb2 := (pw_below_drewN HB1.out (n2 + n3)).setCell (p := ⟨q, 0, none⟩) hq0 (.int .i64 (a : Int))
            have hh2 := heap_setCell_same (W1.drewN (n2 + n3)) q 0 _ _ (.int .i64 (a : Int)) HH1.out
            obtain ⟨W2, hW2⟩ : ∃ W2, W2 = (W1.drewN (n2 + n3)).setCell ⟨q, 0, none⟩ (.int .i64 (a : Int)) := ⟨_, rfl⟩
            rw [← hW2] at ho2 hb2 hh2
            rw [← hW2]
            have HO2 := Lib.hid ho2
            have HB2 := Lib.hid hb2
            have HH2 := Lib.hid hh2
            clear hW2 ho2 hb2 hh2 c0 f0 hqW hne HO1 HB1 HH1 he
            have c0 : W2.cell? ⟨q, 0, none⟩ = some (.int .i64 (a : Int)) := cell_of_row W2 q 0 _ _ _ HH2.out
            have c1 : W2.cell? ⟨q, 1, none⟩ = some (.int .i64 0) := cell_of_row W2 q 1 _ _ _ HH2.out
            have f1 : W2.frozen? ⟨q, 1, none⟩ = false := frozen_of_row W2 q 1 _ _ HH2.out
            have hne2 := own_ne HO2.out HH2.out (by decide)
            have hqW : q < W2.heap.size := (Array.getElem?_eq_some_iff.1 HH2.out).1
            cases hE2 : endP (cut1 58 (cut2 58 p)).data.toList with
            | none =>
              rw [hE2, HS.out] at HMS
              obtain ⟨r1, hr⟩ : ∃ r1, endA (cut1 58 (cut2 58 p)).data.toList = (r1, false) := ⟨_, Prod.ext rfl (endA_none hE2)⟩
              rw [hr] at he2
              have hPP : P = ([], 40) := by rw [HPM.out, HMS.out]; rfl
              clear HMS HPM hr hE2
              subst hPP
              go_wp2_with fail
              rw [rounds_succ]
              go_wp2_with (first | (go_at_call 50; refine (cut_calls 58 (cut2 58 p) _ (by unfold maxLen; omega)).mono ?_; rintro e w' ⟨rfl, n4, rfl⟩) | (go_at_call 51; refine (span_end.calls 13 _ _ _ _ he2).mono ?_; rintro e w' ⟨rfl, hd⟩; obtain ⟨n5, rfl⟩ := hd.out))
              (try simp only [Exit.noGoto])
              go_ret2
              exact ⟨_, rfl, own_nil _ _ _ _, pw_below_drewN HB2.out _⟩
            | some b =>
              rw [endA_some hE2] at he2
              rw [hE2, HS.out] at HMS
              have hb := endP_le hE2
              clear hE2
              cases hS2 : cut3 58 (cut2 58 p) with
              | true =>
                rw [hS2] at HMS
                have HS2 := Lib.hid hS2
                clear hS2
                have hPP : P = ([], 40) := by rw [HPM.out, HMS.out]; rfl
                clear HMS HPM
                subst hPP
                go_wp2_with fail
                rw [rounds_succ]
                go_wp2_with (first | (go_at_call 50; refine (cut_calls 58 (cut2 58 p) _ (by unfold maxLen; omega)).mono ?_; rintro e w' ⟨rfl, n4, rfl⟩; rw [HS2.out]) | (go_at_call 51; refine (span_end.calls 13 _ _ _ _ he2).mono ?_; rintro e w' ⟨rfl, hd⟩; obtain ⟨n5, rfl⟩ := hd.out))
                rw [rounds_succ]
                go_wp2_with fail
                (try simp only [Exit.noGoto])
                go_ret2
                exact ⟨_, rfl, own_nil _ _ _ _, (pw_below_drewN HB2.out _).setCell (p := ⟨q, 1, none⟩) hq0 _⟩
              | false =>
                rw [hS2] at HMS
                have HS2 := Lib.hid hS2
                clear hS2
                go_wp2_with fail
                rw [rounds_succ]
                go_upto_region 17 with (first | (go_at_call 50; refine (cut_calls 58 (cut2 58 p) _ (by unfold maxLen; omega)).mono ?_; rintro e w' ⟨rfl, n4, rfl⟩; rw [HS2.out]) | (go_at_call 51; refine (span_end.calls 13 _ _ _ _ he2).mono ?_; rintro e w' ⟨rfl, hd⟩; obtain ⟨n5, rfl⟩ := hd.out))
                have ho4 := own_setCell (p := ⟨q, 1, none⟩) (pw_own_drewN HO2.out (n4 + n5)) hne2 (.int .i64 (b : Int))
                have hb4 := (pw_below_drewN HB2.out (n4 + n5)).setCell (p := ⟨q, 1, none⟩) hq0 (.int .i64 (b : Int))
                have hh4 := heap_setCell_same (W2.drewN (n4 + n5)) q 1 _ _ (.int .i64 (b : Int)) HH2.out
                obtain ⟨W4, hW4⟩ : ∃ W4, W4 = (W2.drewN (n4 + n5)).setCell ⟨q, 1, none⟩ (.int .i64 (b : Int)) := ⟨_, rfl⟩
                rw [← hW4] at ho4 hb4 hh4
                rw [← hW4]
                have k0 : W4.cell? ⟨q, 0, none⟩ = some (.int .i64 (a : Int)) := cell_of_row W4 q 0 _ _ _ hh4
                have HO4 := Lib.hid ho4
                have HB4 := Lib.hid hb4
                have hb4s := hb4.size
                clear hW4 ho4 hb4 hh4 c0 c1 f1 hne2 hqW HO2 HB2 HH2 he2
                go_wp2_with (at_builtin; go_loud (refine wpList_append_own _ rfl _ _ 23 rfl w.heap.size 28 i0 _ 2 16 Tryd.underlying23 HI.out HZ.out.1 HZ.out.2.1 HZ.out.2.2 rfl (by decide) (.slice A4 acc.length c4) acc.length (flat acc) (by rfl) (own_alloc HO4.out _) ⟨W4.heap.size, 0, none⟩ 1 1 [.int .i64 (a : Int), .int .i64 (b : Int)] (by rfl) (by rfl) (two_at _ _ _ _ rfl) (by exact flat_one [⟨a, b⟩]) (by unfold maxLen; omega) (by omega) (by simp; omega) ?_))
                intro v' W3 hown3 hgrow _
                have HO3 := Lib.hid hown3
                have HB3 := Lib.hid (pw_below_grown (below_alloc HB4.out (.cells #[.int .i64 (a : Int), .int .i64 (b : Int)] 28)) _ (by simp; omega) hgrow (fun k hk => own_base HO4.out k hk))
                clear hown3 hgrow HO4 HB4 k0 hb4s
                go_wp2
                go_roundg (mz (.string (cut2 44 u)) (.bool (cut3 44 u)))
                case measure => rw [hn, mz_t]; exact hcs3
                case rel =>
                  refine ⟨cut2 44 u, acc ++ [⟨a, b⟩], cut3 44 u, rfl, rfl, rfl, ⟨by rw [flat_append, List.length_append]; exact HO3.out⟩, ⟨HB3.out⟩, by rw [List.length_append]; simp; omega, by omega, ⟨?_⟩, ⟨fun h => by rw [List.length_append]; have := HCS2.out h; simp; omega⟩⟩
                  rw [HMS.out, List.map_append]
                  rfl
def span_Parse.f (a0 : ByteArray) : Option (List S28 × Int) := some (parseA a0)
theorem span_Parse.calls (a0 : ByteArray) (r1 : List S28) (r2 : Int) (w : World) (h : span_Parse.f a0 = some (r1, r2)) :
    Calls Tryd.prog 23 #[.string a0] w fun e w' => ∃ v0_ : Value, e = .returned (.tuple #[v0_, .int .i64 r2]) ∧ Kd.R k28 28 w' w.heap.size (fun _ => True) v0_ r1 ∧ Below w.heap.size w w' := by
  have h := Option.some.inj h
  refine (parse_calls a0 w).mono ?_
  rintro e w' ⟨v, he, ho, hB⟩
  rw [h] at he ho
  exact ⟨v, he, R_of_own ho, hB⟩
end Go.Proofs.YtidcchopmbodkaaDoor.Sp
end
section
namespace Go.Proofs.YtidcchopmbodkaaDoor.Sp
open Go.RowKit Go.Proofs.YtidcchopmbodkaaDoorW.PrintWords Go.Proofs.YtidcchopmbodkaaDoorW.PrintLast Go.Proofs.YtidcchopmbodkaaDoorW.PrintMore
open Canon
theorem putL_len : ∀ (l m behind : List Rg) (a b : Int), (putL l m behind a b).length ≤ l.length + m.length + behind.length + 1
  | [], m, behind, a, b => by simp [putL]; omega
  | s :: l, m, behind, a, b => by
    unfold putL
    split
    · have := putL_len l (m ++ [s]) behind a b; simp at this ⊢; omega
    · split
      · have := putL_len l m (behind ++ [s]) a b; simp at this ⊢; omega
      · have := putL_len l m behind (min a s.1) (max b s.2); simp at this ⊢; omega
theorem canon_len (l : List Rg) : (canon l).length ≤ l.length := by
  have key : ∀ (l acc : List Rg), (l.foldl (fun acc r => put acc r.1 r.2) acc).length ≤ acc.length + l.length := by
    intro l
    induction l with
    | nil => intro acc; simp
    | cons r l ih =>
      intro acc
      have h1 := ih (put acc r.1 r.2)
      have h2 := putL_len acc [] [] r.1 r.2
      have h3 : (put acc r.1 r.2).length ≤ acc.length + 1 := by simpa [put] using h2
      simp only [List.foldl_cons, List.length_cons]
      omega
  have := key l []
  simpa [canon] using this
structure Form (A : List S28) : Prop where
  rises : Rises (A.map pr)
  ends : ∀ x ∈ A, 1 ≤ x.f0 ∧ x.f1 ≤ 4294967295
theorem Form.le {A : List S28} (h : Form A) (x : S28) (hx : x ∈ A) : x.f0 ≤ x.f1 := h.rises.1 (pr x) (List.mem_map.2 ⟨x, hx, rfl⟩)
def upto (a : Int) (k : Nat) : List Int := (List.range k).map fun i : Nat => a + (i : Int)
end Go.Proofs.YtidcchopmbodkaaDoor.Sp
end
