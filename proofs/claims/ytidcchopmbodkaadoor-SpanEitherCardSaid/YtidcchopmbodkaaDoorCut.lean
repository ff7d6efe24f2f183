/- strings.Cut at one byte: what stands ahead of its first place and behind it. -/
import Derived.Test.YtidcchopmbodkaaDoorSp0
import Derived.Test.YtidcchopmbodkaaDoorShl
import Derived.Test.YtidcchopmbodkaaDoorPar
import Derived.Lib.Hide
import Derived.IntWalk
namespace Go.Proofs.YtidcchopmbodkaaDoor.Sp
open Go.RowKit Go.Proofs.YtidcchopmbodkaaDoorW.PrintWords Go.Proofs.YtidcchopmbodkaaDoorW.PrintLast Go.Proofs.YtidcchopmbodkaaDoorW.PrintMore
open Par

theorem ix_no (c : UInt8) (l : List UInt8) (h : c ∉ l) : Lib.indexByte l c = -1 := by
  induction l with
  | nil => rfl
  | cons d l ih =>
    simp only [List.mem_cons, not_or] at h
    unfold Lib.indexByte
    rw [if_neg (by simpa using fun e => h.1 e.symm), ih h.2]
    rfl
theorem ix_yes (c : UInt8) (p r : List UInt8) (h : c ∉ p) : Lib.indexByte (p ++ c :: r) c = p.length := by
  induction p with
  | nil => show Lib.indexByte (c :: r) c = 0; unfold Lib.indexByte; rw [if_pos (by simp)]
  | cons d p ih =>
    simp only [List.mem_cons, not_or] at h
    show Lib.indexByte (d :: (p ++ c :: r)) c = _
    unfold Lib.indexByte
    rw [if_neg (by simpa using fun e => h.1 e.symm), ih h.2, if_neg (by simp)]
    simp
def cut1 (c : UInt8) (s : ByteArray) : ByteArray := ⟨(cutB c s.data.toList).1.toArray⟩
def cut2 (c : UInt8) (s : ByteArray) : ByteArray := ⟨(cutB c s.data.toList).2.1.toArray⟩
def cut3 (c : UInt8) (s : ByteArray) : Bool := (cutB c s.data.toList).2.2
theorem bytes_ext {a b : ByteArray} (h : a.data.toList = b.data.toList) : a = b := by
  cases a; cases b; simp at h; subst h; rfl
/-- The cut, at whatever text: all of it and nothing, or the text is the two with the byte between. -/
theorem cut_cases (c : UInt8) (s : ByteArray) : (Lib.indexByte s.data.toList c = -1 ∧ cut1 c s = s ∧ cut2 c s = ⟨#[]⟩ ∧ cut3 c s = false) ∨
    (∃ i : Nat, Lib.indexByte s.data.toList c = i ∧ i < s.size ∧ cut1 c s = s.extract 0 i ∧ cut2 c s = s.extract (i + 1) s.size ∧ cut3 c s = true) := by
  rcases cut_is c s.data.toList with ⟨h1, h2, h3, h4⟩ | ⟨h1, h2, h3⟩
  · left
    refine ⟨ix_no c _ h4, ?_, ?_, h1⟩
    · apply bytes_ext; show (cutB c s.data.toList).1.toArray.toList = _; rw [h2]
    · show (⟨(cutB c s.data.toList).2.1.toArray⟩ : ByteArray) = _; rw [h3]
  · right
    generalize hp : (cutB c s.data.toList).1 = p at *
    generalize hr : (cutB c s.data.toList).2.1 = r at *
    have hlen : s.size = p.length + 1 + r.length := by
      have := congrArg List.length h2
      rw [Array.length_toList] at this
      simp only [List.length_append, List.length_cons] at this
      show s.data.size = _
      omega
    refine ⟨p.length, by rw [h2]; exact ix_yes c p r h3, by omega, ?_, ?_, h1⟩
    · apply bytes_ext
      show (cutB c s.data.toList).1.toArray.toList = _
      rw [hp]
      simp [ByteArray.data_extract, h2]
    · apply bytes_ext
      show (cutB c s.data.toList).2.1.toArray.toList = _
      rw [hr]
      simp only [ByteArray.data_extract, Array.toList_extract, h2, List.extract_eq_take_drop]
      have e : List.drop (p.length + 1) (p ++ c :: r) = r := by simp
      rw [e, List.take_of_length_le (by omega)]
set_option maxHeartbeats 1000000 in
theorem cutl_calls (c : UInt8) (s : ByteArray) (w : World) (hs : s.size ≤ maxLen) :
    Calls Tryd.prog 65 #[.string s, .string ⟨#[c]⟩] w fun e w' => e = .returned (.tuple #[.string (cut1 c s), .string (cut2 c s), .bool (cut3 c s)]) ∧ ∃ n, w' = w.drewN n := by
  unfold maxLen at hs
  rcases cut_cases c s with ⟨h1, h2, h3, h4⟩ | ⟨i, h1, h2, h3, h4, h5⟩
  · rw [h2, h3, h4]
    have hcon := Shl.stringslite_Index_one s c w
    rw [h1] at hcon
    clear h1 h2 h3 h4
    go_enter Tryd.func65, Tryd.ntmps65
    go_wp2_with (go_at_call 74; refine hcon.mono ?_; rintro e w' ⟨rfl, rfl⟩)
    go_ret3
    exact ⟨rfl, 0, rfl⟩
  · rw [h3, h4, h5]
    have hcon := Shl.stringslite_Index_one s c w
    rw [h1] at hcon
    clear h1 h3 h4 h5
    have hi : (0 : Int) ≤ (i : Int) := by omega
    have hi2 : (i : Int) ≤ (s.size : Int) := by omega
    have hw : IntKind.i64.wrap ((i : Int) + 1) = (i : Int) + 1 := IntWalk.i64_in _ (by omega)
    have hw0 : (0 : Int) ≤ (i : Int) + 1 := by omega
    have hw1 : (i : Int) + 1 ≤ (s.size : Int) := by omega
    go_enter Tryd.func65, Tryd.ntmps65
    go_wp2_with (go_at_call 74; refine hcon.mono ?_; rintro e w' ⟨rfl, rfl⟩)
    go_quiet (fail)
    go_wp2
    go_ret3
    exact ⟨rfl, _, rfl⟩
theorem cut_calls (c : UInt8) (s : ByteArray) (w : World) (hs : s.size ≤ maxLen) :
    Calls Tryd.prog 50 #[.string s, .string ⟨#[c]⟩] w fun e w' => e = .returned (.tuple #[.string (cut1 c s), .string (cut2 c s), .bool (cut3 c s)]) ∧ ∃ n, w' = w.drewN n := by
  have hcon := cutl_calls c s w hs
  clear hs
  go_enter Tryd.func50, Tryd.ntmps50
  go_wp2_with (go_at_call 65; refine hcon.mono ?_; rintro e w' ⟨rfl, n, rfl⟩)
  go_ret3
  exact ⟨rfl, _, rfl⟩
end Go.Proofs.YtidcchopmbodkaaDoor.Sp
