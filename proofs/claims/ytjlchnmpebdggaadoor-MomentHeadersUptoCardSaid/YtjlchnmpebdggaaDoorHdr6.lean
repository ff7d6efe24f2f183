import Derived.Test.YtjlchnmpebdggaaDoorHdr5
import Derived.StillTailTactics
import Derived.Test.YtjlchnmpebdggaaDoorHdr2
import Derived.Laws.IdiomStrings
import Derived.DataShut
import Derived.Lib.Hide
import Derived.Test.YtjlchnmpebdggaaDoorHdr3
import Derived.Maps.OwnOps
import Derived.Maps.Views
import Derived.Maps.Keyed
section
namespace Go.Proofs.YtjlchnmpebdggaaDoor.Mo
open Go.RowKit Go.Proofs.YtjlchnmpebdggaaDoorW.PrintWords Go.Proofs.YtjlchnmpebdggaaDoorW.PrintLast Go.Proofs.YtjlchnmpebdggaaDoorW.PrintMore
attribute [local go_sem] max2_int min2_int max_two min_two
def isBlank (c : UInt8) : Bool := c.toNat == 32 || (c.toNat == 9 || (c.toNat == 13 || c.toNat == 10))
def blanksL : List UInt8 → Nat → Nat
  | [], _ => 0
  | c :: r, d =>
    if c.toNat = 40 then 1 + blanksL r (d + 1)
    else if 0 < d ∧ c.toNat = 41 then 1 + blanksL r (d - 1)
    else if 0 < d ∧ c.toNat = 92 then 1 + (match r with | [] => 0 | _ :: r' => 1 + blanksL r' d)
    else if 0 < d ∨ isBlank c = true then 1 + blanksL r d
    else 0
def blankP (l : List UInt8) (i : Nat) : Nat := i + blanksL (l.drop i) 0
def BlAt (l : List UInt8) (T j d : Nat) : Prop := d ≤ j ∧ (j ≤ l.length ∧ j + blanksL (l.drop j) d = T ∨ j = l.length + 1 ∧ T = l.length)
theorem bl_open {l : List UInt8} {T j d : Nat} (h : BlAt l T j d) (hj : j < l.length) : BlAt l T (j + 1) (d + 1) ∧ l[j].toNat = 40 ∨ BlAt l T (j + 1) (d - 1) ∧ 0 < d ∧ l[j].toNat = 41 ∨ BlAt l T (j + 2) d ∧ 0 < d ∧ l[j].toNat = 92 ∨
    BlAt l T (j + 1) d ∧ (0 < d ∧ l[j].toNat ≠ 40 ∧ l[j].toNat ≠ 41 ∧ l[j].toNat ≠ 92 ∨ d = 0 ∧ l[j].toNat ≠ 40 ∧ isBlank l[j] = true) ∨ T = j ∧ d = 0 ∧ l[j].toNat ≠ 40 ∧ isBlank l[j] = false := by
  obtain ⟨h0, ⟨_, h2⟩ | ⟨h1, _⟩⟩ := h
  · rw [List.drop_eq_getElem_cons hj] at h2
    generalize l[j] = c at *
    unfold blanksL at h2
    by_cases c1 : c.toNat = 40
    · rw [if_pos c1] at h2
      exact .inl ⟨⟨by omega, .inl ⟨by omega, by omega⟩⟩, c1⟩
    · rw [if_neg c1] at h2
      by_cases c2 : 0 < d ∧ c.toNat = 41
      · rw [if_pos c2] at h2
        exact .inr (.inl ⟨⟨by omega, .inl ⟨by omega, by omega⟩⟩, c2.1, c2.2⟩)
      · rw [if_neg c2] at h2
        by_cases c3 : 0 < d ∧ c.toNat = 92
        · rw [if_pos c3] at h2
          refine .inr (.inr (.inl ⟨⟨by omega, ?_⟩, c3.1, c3.2⟩))
          by_cases hk : j + 1 < l.length
          · rw [List.drop_eq_getElem_cons hk] at h2
            exact .inl ⟨by omega, by rw [show j + 1 + 1 = j + 2 from rfl] at h2; simp only at h2; omega⟩
          · rw [List.drop_of_length_le (by omega)] at h2
            exact .inr ⟨by omega, by simp only at h2; omega⟩
        · rw [if_neg c3] at h2
          by_cases c4 : 0 < d ∨ isBlank c = true
          · rw [if_pos c4] at h2
            refine .inr (.inr (.inr (.inl ⟨⟨by omega, .inl ⟨by omega, by omega⟩⟩, ?_⟩)))
            by_cases hd : 0 < d
            · exact .inl ⟨hd, c1, fun h => c2 ⟨hd, h⟩, fun h => c3 ⟨hd, h⟩⟩
            · exact .inr ⟨by omega, c1, c4.resolve_left hd⟩
          · rw [if_neg c4] at h2
            exact .inr (.inr (.inr (.inr ⟨by omega, by omega, c1, Bool.eq_false_iff.2 (fun h => c4 (.inr h))⟩)))
  · omega
theorem bl_done {l : List UInt8} {T j d : Nat} (h : BlAt l T j d) (hj : l.length ≤ j) : T = l.length := by
  obtain ⟨h0, ⟨h1, h2⟩ | ⟨h1, h2⟩⟩ := h
  · rw [List.drop_of_length_le hj] at h2
    have : blanksL [] d = 0 := by unfold blanksL; rfl
    omega
  · exact h2
theorem bl_le {l : List UInt8} {T j d : Nat} (h : BlAt l T j d) : j ≤ l.length + 1 := by
  obtain ⟨h0, ⟨h1, h2⟩ | ⟨h1, h2⟩⟩ := h <;> omega
set_option maxHeartbeats 1000000 in
set_option maxRecDepth 100000 in
theorem blanks_calls (c t : Nat) (s : ByteArray) (i : Nat) (k : Int) (x : ByteArray) (w : World) (hs : s.size ≤ 140737488351232) (hi : i ≤ s.size) (hc : Cur c t s i k x w) :
    Calls Tryd.prog 88 #[.pointer (some ⟨c, 0, none⟩)] w fun e w' => e = .returned (.tuple #[]) ∧ Cur c t s (blankP s.data.toList i) k x w' ∧ Turned c w w' := by
  have HC := Lib.hid hc
  clear hc
  have hl := toList_len s
  have hT0 : BlAt s.data.toList (blankP s.data.toList i) i 0 := ⟨by omega, .inl ⟨by omega, rfl⟩⟩
  have HT0 := Lib.hid hT0
  clear hT0
  generalize blankP s.data.toList i = T at *
  go_enter Tryd.func88, Tryd.ntmps88
  go_wp2_with fail
  go_step3
  go_wp2_with fail
  go_step3
  go_wp2_with fail
  go_loopg [2] (s.size + 2 - i) (fun n v2 wr => ∃ j d, n = s.size + 2 - j ∧ v2 = .int .i64 (d : Nat) ∧ BlAt s.data.toList T j d ∧ Cur c t s j k x wr ∧ Turned c w wr)
  case atStart => exact ⟨i, 0, rfl, rfl, HT0.out, HC.out, Turned.refl _ _⟩
  case round =>
    obtain ⟨j, d, hn, rfl, hB, hcur, hT⟩ := hrel
    have hcell : wr.heap[c]? = some (.cells #[.string s, .int .i64 j, .int .i64 k, .string x] t (0, 0)) := hcur
    have c0 : wr.cell? ⟨c, 0, none⟩ = some (.string s) := cell_of_row wr c 0 _ _ _ hcell
    have c1 : wr.cell? ⟨c, 1, none⟩ = some (.int .i64 (j : Nat)) := cell_of_row wr c 1 _ _ _ hcell
    have z1 : wr.frozen? ⟨c, 1, none⟩ = false := frozen_of_row wr c 1 _ _ hcell
    have HCUR := Lib.hid hcell
    have HN := Lib.hid hn
    have HT := Lib.hid hT
    have hjl := bl_le hB
    have hdj := hB.1
    have HB := Lib.hid hB
    clear hcell hcur hn hT hB
    by_cases hlt : j < s.size
    · have hlen : j < s.data.toList.length := by omega
      have hx0 : (0 : Int) ≤ (j : Int) := by omega
      have hx1 : (j : Int) < (s.size : Int) := by omega
      have hO := Lib.hid (bl_open HB.out hlen)
      have hbj : s[j]'hlt = s.data.toList[j]'hlen := rfl
      rw [← hbj] at hO
      obtain ⟨b, hb⟩ : ∃ b, s[j]'hlt = b := ⟨_, rfl⟩
      rw [hb] at hO
      clear hbj
      have h8 := b.toNat_lt
      rcases hO.out with ⟨h1, h2⟩ | ⟨h1, h2, h3⟩ | ⟨h1, h2, h3⟩ | ⟨h1, ⟨h2, h3, h4, h5⟩ | ⟨h2, h3, h4⟩⟩ | ⟨h1, h2, h3, h4⟩
      · have HB2 := Lib.hid h1
        clear h1 hO HB
        have g40 : ((b.toNat : Int) == 40) = true := by rw [beq_iff_eq]; omega
        go_wp2_with fail
        go_quiet (fail)
        have HK := Lib.hid (blk_drewN HCUR.out nq)
        have HTK := Lib.hid (HT.out.drewN nq)
        clear c0 c1 z1 HCUR HT
        generalize wr.drewN nq = wr at *
        have c0 : wr.cell? ⟨c, 0, none⟩ = some (.string s) := cell_of_row wr c 0 _ _ _ HK.out
        have c1 : wr.cell? ⟨c, 1, none⟩ = some (.int .i64 (j : Nat)) := cell_of_row wr c 1 _ _ _ HK.out
        have z1 : wr.frozen? ⟨c, 1, none⟩ = false := frozen_of_row wr c 1 _ _ HK.out
        have HCUR := Lib.hid HK.out
        have HT := Lib.hid HTK.out
        clear HK HTK
        go_wp2_with fail
        go_quiet (fail)
        have HK := Lib.hid (blk_drewN HCUR.out nq)
        have HTK := Lib.hid (HT.out.drewN nq)
        clear c0 c1 z1 HCUR HT
        generalize wr.drewN nq = wr at *
        have c0 : wr.cell? ⟨c, 0, none⟩ = some (.string s) := cell_of_row wr c 0 _ _ _ HK.out
        have c1 : wr.cell? ⟨c, 1, none⟩ = some (.int .i64 (j : Nat)) := cell_of_row wr c 1 _ _ _ HK.out
        have z1 : wr.frozen? ⟨c, 1, none⟩ = false := frozen_of_row wr c 1 _ _ HK.out
        have HCUR := Lib.hid HK.out
        have HT := Lib.hid HTK.out
        clear HK HTK
        go_wp2
        go_roundg (s.size + 2 - (j + 1))
        case measure => have := HN.out; omega
        case rel =>
          have h := blk_put (cs' := #[.string s, .int .i64 ((j : Int) + 1), .int .i64 k, .string x]) HCUR.out 1 (.int .i64 ((j : Int) + 1)) rfl
          exact ⟨j + 1, d + 1, rfl, by go_num, HB2.out, h, HT.out.set 1 _⟩
      · have HB2 := Lib.hid h1
        clear h1 hO HB
        have g40 : ((b.toNat : Int) == 40) = false := by rw [beq_eq_false_iff_ne]; omega
        have g41 : ((b.toNat : Int) == 41) = true := by rw [beq_iff_eq]; omega
        have gd : decide ((0 : Int) < (d : Int)) = true := decide_eq_true (by omega)
        have gd2 : decide (0 < d) = true := decide_eq_true (by omega)
        go_wp2_with fail
        go_quiet (fail)
        have HK := Lib.hid (blk_drewN HCUR.out nq)
        have HTK := Lib.hid (HT.out.drewN nq)
        clear c0 c1 z1 HCUR HT
        generalize wr.drewN nq = wr at *
        have c0 : wr.cell? ⟨c, 0, none⟩ = some (.string s) := cell_of_row wr c 0 _ _ _ HK.out
        have c1 : wr.cell? ⟨c, 1, none⟩ = some (.int .i64 (j : Nat)) := cell_of_row wr c 1 _ _ _ HK.out
        have z1 : wr.frozen? ⟨c, 1, none⟩ = false := frozen_of_row wr c 1 _ _ HK.out
        have HCUR := Lib.hid HK.out
        have HT := Lib.hid HTK.out
        clear HK HTK
        go_wp2_with fail
        go_quiet (fail)
        have HK := Lib.hid (blk_drewN HCUR.out nq)
        have HTK := Lib.hid (HT.out.drewN nq)
        clear c0 c1 z1 HCUR HT
        generalize wr.drewN nq = wr at *
        have c0 : wr.cell? ⟨c, 0, none⟩ = some (.string s) := cell_of_row wr c 0 _ _ _ HK.out
        have c1 : wr.cell? ⟨c, 1, none⟩ = some (.int .i64 (j : Nat)) := cell_of_row wr c 1 _ _ _ HK.out
        have z1 : wr.frozen? ⟨c, 1, none⟩ = false := frozen_of_row wr c 1 _ _ HK.out
        have HCUR := Lib.hid HK.out
        have HT := Lib.hid HTK.out
        clear HK HTK
        go_wp2
        go_roundg (s.size + 2 - (j + 1))
        case measure => have := HN.out; omega
        case rel =>
          have h := blk_put (cs' := #[.string s, .int .i64 ((j : Int) + 1), .int .i64 k, .string x]) HCUR.out 1 (.int .i64 ((j : Int) + 1)) rfl
          exact ⟨j + 1, d - 1, rfl, by rw [show ((d - 1 : Nat) : Int) = (d : Int) - 1 from by omega], HB2.out, h, HT.out.set 1 _⟩
      · have HB2 := Lib.hid h1
        clear h1 hO HB
        have g40 : ((b.toNat : Int) == 40) = false := by rw [beq_eq_false_iff_ne]; omega
        have g41 : ((b.toNat : Int) == 41) = false := by rw [beq_eq_false_iff_ne]; omega
        have g92 : ((b.toNat : Int) == 92) = true := by rw [beq_iff_eq]; omega
        have gd : decide ((0 : Int) < (d : Int)) = true := decide_eq_true (by omega)
        have gd2 : decide (0 < d) = true := decide_eq_true (by omega)
        go_wp2_with fail
        go_quiet (fail)
        have HK := Lib.hid (blk_drewN HCUR.out nq)
        have HTK := Lib.hid (HT.out.drewN nq)
        clear c0 c1 z1 HCUR HT
        generalize wr.drewN nq = wr at *
        have c0 : wr.cell? ⟨c, 0, none⟩ = some (.string s) := cell_of_row wr c 0 _ _ _ HK.out
        have c1 : wr.cell? ⟨c, 1, none⟩ = some (.int .i64 (j : Nat)) := cell_of_row wr c 1 _ _ _ HK.out
        have z1 : wr.frozen? ⟨c, 1, none⟩ = false := frozen_of_row wr c 1 _ _ HK.out
        have HCUR := Lib.hid HK.out
        have HT := Lib.hid HTK.out
        clear HK HTK
        go_wp2_with fail
        go_quiet (fail)
        have HK := Lib.hid (blk_drewN HCUR.out nq)
        have HTK := Lib.hid (HT.out.drewN nq)
        clear c0 c1 z1 HCUR HT
        generalize wr.drewN nq = wr at *
        have c0 : wr.cell? ⟨c, 0, none⟩ = some (.string s) := cell_of_row wr c 0 _ _ _ HK.out
        have c1 : wr.cell? ⟨c, 1, none⟩ = some (.int .i64 (j : Nat)) := cell_of_row wr c 1 _ _ _ HK.out
        have z1 : wr.frozen? ⟨c, 1, none⟩ = false := frozen_of_row wr c 1 _ _ HK.out
        have HCUR := Lib.hid HK.out
        have HT := Lib.hid HTK.out
        clear HK HTK
        go_wp2
        go_roundg (s.size + 2 - (j + 2))
        case measure => have := HN.out; omega
        case rel =>
          have h := blk_put (cs' := #[.string s, .int .i64 ((j : Int) + 1), .int .i64 k, .string x]) HCUR.out 1 (.int .i64 ((j : Int) + 1)) rfl
          replace h := blk_put (cs' := #[.string s, .int .i64 ((j : Int) + 1 + 1), .int .i64 k, .string x]) h 1 (.int .i64 ((j : Int) + 1 + 1)) rfl
          exact ⟨j + 2, d, rfl, rfl, HB2.out, h, (HT.out.set 1 _).set 1 _⟩
      · have HB2 := Lib.hid h1
        clear h1 hO HB
        have g40 : ((b.toNat : Int) == 40) = false := by rw [beq_eq_false_iff_ne]; omega
        have g41 : ((b.toNat : Int) == 41) = false := by rw [beq_eq_false_iff_ne]; omega
        have g92 : ((b.toNat : Int) == 92) = false := by rw [beq_eq_false_iff_ne]; omega
        have gd : decide ((0 : Int) < (d : Int)) = true := decide_eq_true (by omega)
        have gd2 : decide (0 < d) = true := decide_eq_true (by omega)
        go_wp2_with fail
        go_quiet (fail)
        have HK := Lib.hid (blk_drewN HCUR.out nq)
        have HTK := Lib.hid (HT.out.drewN nq)
        clear c0 c1 z1 HCUR HT
        generalize wr.drewN nq = wr at *
        have c0 : wr.cell? ⟨c, 0, none⟩ = some (.string s) := cell_of_row wr c 0 _ _ _ HK.out
        have c1 : wr.cell? ⟨c, 1, none⟩ = some (.int .i64 (j : Nat)) := cell_of_row wr c 1 _ _ _ HK.out
        have z1 : wr.frozen? ⟨c, 1, none⟩ = false := frozen_of_row wr c 1 _ _ HK.out
        have HCUR := Lib.hid HK.out
        have HT := Lib.hid HTK.out
        clear HK HTK
        go_wp2_with fail
        go_quiet (fail)
        have HK := Lib.hid (blk_drewN HCUR.out nq)
        have HTK := Lib.hid (HT.out.drewN nq)
        clear c0 c1 z1 HCUR HT
        generalize wr.drewN nq = wr at *
        have c0 : wr.cell? ⟨c, 0, none⟩ = some (.string s) := cell_of_row wr c 0 _ _ _ HK.out
        have c1 : wr.cell? ⟨c, 1, none⟩ = some (.int .i64 (j : Nat)) := cell_of_row wr c 1 _ _ _ HK.out
        have z1 : wr.frozen? ⟨c, 1, none⟩ = false := frozen_of_row wr c 1 _ _ HK.out
        have HCUR := Lib.hid HK.out
        have HT := Lib.hid HTK.out
        clear HK HTK
        go_wp2
        go_roundg (s.size + 2 - (j + 1))
        case measure => have := HN.out; omega
        case rel =>
          have h := blk_put (cs' := #[.string s, .int .i64 ((j : Int) + 1), .int .i64 k, .string x]) HCUR.out 1 (.int .i64 ((j : Int) + 1)) rfl
          exact ⟨j + 1, d, rfl, rfl, HB2.out, h, HT.out.set 1 _⟩
      · have HB2 := Lib.hid h1
        subst h2
        have h5 : b.toNat = 32 ∨ b.toNat ≠ 32 ∧ b.toNat = 9 ∨ b.toNat ≠ 32 ∧ b.toNat ≠ 9 ∧ b.toNat = 13 ∨ b.toNat ≠ 32 ∧ b.toNat ≠ 9 ∧ b.toNat ≠ 13 ∧ b.toNat = 10 := by
          simp only [isBlank, Bool.or_eq_true, beq_iff_eq] at h4
          omega
        clear h1 hO HB h4
        have gd : decide ((0 : Int) < ((0 : Nat) : Int)) = false := rfl
        have g40 : ((b.toNat : Int) == 40) = false := by rw [beq_eq_false_iff_ne]; omega
        rcases h5 with h5 | ⟨h5, h6⟩ | ⟨h5, h6, h7⟩ | ⟨h5, h6, h7, h9⟩
        · have e32 : ((b.toNat : Int) == 32) = true := by rw [beq_iff_eq]; omega
          go_wp2_with fail
          go_quiet (fail)
          have HK := Lib.hid (blk_drewN HCUR.out nq)
          have HTK := Lib.hid (HT.out.drewN nq)
          clear c0 c1 z1 HCUR HT
          generalize wr.drewN nq = wr at *
          have c0 : wr.cell? ⟨c, 0, none⟩ = some (.string s) := cell_of_row wr c 0 _ _ _ HK.out
          have c1 : wr.cell? ⟨c, 1, none⟩ = some (.int .i64 (j : Nat)) := cell_of_row wr c 1 _ _ _ HK.out
          have z1 : wr.frozen? ⟨c, 1, none⟩ = false := frozen_of_row wr c 1 _ _ HK.out
          have HCUR := Lib.hid HK.out
          have HT := Lib.hid HTK.out
          clear HK HTK
          go_wp2_with fail
          go_quiet (fail)
          have HK := Lib.hid (blk_drewN HCUR.out nq)
          have HTK := Lib.hid (HT.out.drewN nq)
          clear c0 c1 z1 HCUR HT
          generalize wr.drewN nq = wr at *
          have c0 : wr.cell? ⟨c, 0, none⟩ = some (.string s) := cell_of_row wr c 0 _ _ _ HK.out
          have c1 : wr.cell? ⟨c, 1, none⟩ = some (.int .i64 (j : Nat)) := cell_of_row wr c 1 _ _ _ HK.out
          have z1 : wr.frozen? ⟨c, 1, none⟩ = false := frozen_of_row wr c 1 _ _ HK.out
          have HCUR := Lib.hid HK.out
          have HT := Lib.hid HTK.out
          clear HK HTK
          go_wp2
          go_roundg (s.size + 2 - (j + 1))
          case measure => have := HN.out; omega
          case rel =>
            have h := blk_put (cs' := #[.string s, .int .i64 ((j : Int) + 1), .int .i64 k, .string x]) HCUR.out 1 (.int .i64 ((j : Int) + 1)) rfl
            exact ⟨j + 1, 0, rfl, rfl, HB2.out, h, HT.out.set 1 _⟩
        · have e32 : ((b.toNat : Int) == 32) = false := by rw [beq_eq_false_iff_ne]; omega
          have e9 : ((b.toNat : Int) == 9) = true := by rw [beq_iff_eq]; omega
          go_wp2_with fail
          go_quiet (fail)
          have HK := Lib.hid (blk_drewN HCUR.out nq)
          have HTK := Lib.hid (HT.out.drewN nq)
          clear c0 c1 z1 HCUR HT
          generalize wr.drewN nq = wr at *
          have c0 : wr.cell? ⟨c, 0, none⟩ = some (.string s) := cell_of_row wr c 0 _ _ _ HK.out
          have c1 : wr.cell? ⟨c, 1, none⟩ = some (.int .i64 (j : Nat)) := cell_of_row wr c 1 _ _ _ HK.out
          have z1 : wr.frozen? ⟨c, 1, none⟩ = false := frozen_of_row wr c 1 _ _ HK.out
          have HCUR := Lib.hid HK.out
          have HT := Lib.hid HTK.out
          clear HK HTK
          go_wp2_with fail
          go_quiet (fail)
          have HK := Lib.hid (blk_drewN HCUR.out nq)
          have HTK := Lib.hid (HT.out.drewN nq)
          clear c0 c1 z1 HCUR HT
          generalize wr.drewN nq = wr at *
          have c0 : wr.cell? ⟨c, 0, none⟩ = some (.string s) := cell_of_row wr c 0 _ _ _ HK.out
          have c1 : wr.cell? ⟨c, 1, none⟩ = some (.int .i64 (j : Nat)) := cell_of_row wr c 1 _ _ _ HK.out
          have z1 : wr.frozen? ⟨c, 1, none⟩ = false := frozen_of_row wr c 1 _ _ HK.out
          have HCUR := Lib.hid HK.out
          have HT := Lib.hid HTK.out
          clear HK HTK
          go_wp2
          go_roundg (s.size + 2 - (j + 1))
          case measure => have := HN.out; omega
          case rel =>
            have h := blk_put (cs' := #[.string s, .int .i64 ((j : Int) + 1), .int .i64 k, .string x]) HCUR.out 1 (.int .i64 ((j : Int) + 1)) rfl
            exact ⟨j + 1, 0, rfl, rfl, HB2.out, h, HT.out.set 1 _⟩
        · have e32 : ((b.toNat : Int) == 32) = false := by rw [beq_eq_false_iff_ne]; omega
          have e9 : ((b.toNat : Int) == 9) = false := by rw [beq_eq_false_iff_ne]; omega
          have e13 : ((b.toNat : Int) == 13) = true := by rw [beq_iff_eq]; omega
          go_wp2_with fail
          go_quiet (fail)
          have HK := Lib.hid (blk_drewN HCUR.out nq)
          have HTK := Lib.hid (HT.out.drewN nq)
          clear c0 c1 z1 HCUR HT
          generalize wr.drewN nq = wr at *
          have c0 : wr.cell? ⟨c, 0, none⟩ = some (.string s) := cell_of_row wr c 0 _ _ _ HK.out
          have c1 : wr.cell? ⟨c, 1, none⟩ = some (.int .i64 (j : Nat)) := cell_of_row wr c 1 _ _ _ HK.out
          have z1 : wr.frozen? ⟨c, 1, none⟩ = false := frozen_of_row wr c 1 _ _ HK.out
          have HCUR := Lib.hid HK.out
          have HT := Lib.hid HTK.out
          clear HK HTK
          go_wp2_with fail
          go_quiet (fail)
          have HK := Lib.hid (blk_drewN HCUR.out nq)
          have HTK := Lib.hid (HT.out.drewN nq)
          clear c0 c1 z1 HCUR HT
          generalize wr.drewN nq = wr at *
          have c0 : wr.cell? ⟨c, 0, none⟩ = some (.string s) := cell_of_row wr c 0 _ _ _ HK.out
          have c1 : wr.cell? ⟨c, 1, none⟩ = some (.int .i64 (j : Nat)) := cell_of_row wr c 1 _ _ _ HK.out
          have z1 : wr.frozen? ⟨c, 1, none⟩ = false := frozen_of_row wr c 1 _ _ HK.out
          have HCUR := Lib.hid HK.out
          have HT := Lib.hid HTK.out
          clear HK HTK
          go_wp2
          go_roundg (s.size + 2 - (j + 1))
          case measure => have := HN.out; omega
          case rel =>
            have h := blk_put (cs' := #[.string s, .int .i64 ((j : Int) + 1), .int .i64 k, .string x]) HCUR.out 1 (.int .i64 ((j : Int) + 1)) rfl
            exact ⟨j + 1, 0, rfl, rfl, HB2.out, h, HT.out.set 1 _⟩
        · have e32 : ((b.toNat : Int) == 32) = false := by rw [beq_eq_false_iff_ne]; omega
          have e9 : ((b.toNat : Int) == 9) = false := by rw [beq_eq_false_iff_ne]; omega
          have e13 : ((b.toNat : Int) == 13) = false := by rw [beq_eq_false_iff_ne]; omega
          have e10 : ((b.toNat : Int) == 10) = true := by rw [beq_iff_eq]; omega
          go_wp2_with fail
          go_quiet (fail)
          have HK := Lib.hid (blk_drewN HCUR.out nq)
          have HTK := Lib.hid (HT.out.drewN nq)
          clear c0 c1 z1 HCUR HT
          generalize wr.drewN nq = wr at *
          have c0 : wr.cell? ⟨c, 0, none⟩ = some (.string s) := cell_of_row wr c 0 _ _ _ HK.out
          have c1 : wr.cell? ⟨c, 1, none⟩ = some (.int .i64 (j : Nat)) := cell_of_row wr c 1 _ _ _ HK.out
          have z1 : wr.frozen? ⟨c, 1, none⟩ = false := frozen_of_row wr c 1 _ _ HK.out
          have HCUR := Lib.hid HK.out
          have HT := Lib.hid HTK.out
          clear HK HTK
          go_wp2_with fail
          go_quiet (fail)
          have HK := Lib.hid (blk_drewN HCUR.out nq)
          have HTK := Lib.hid (HT.out.drewN nq)
          clear c0 c1 z1 HCUR HT
          generalize wr.drewN nq = wr at *
          have c0 : wr.cell? ⟨c, 0, none⟩ = some (.string s) := cell_of_row wr c 0 _ _ _ HK.out
          have c1 : wr.cell? ⟨c, 1, none⟩ = some (.int .i64 (j : Nat)) := cell_of_row wr c 1 _ _ _ HK.out
          have z1 : wr.frozen? ⟨c, 1, none⟩ = false := frozen_of_row wr c 1 _ _ HK.out
          have HCUR := Lib.hid HK.out
          have HT := Lib.hid HTK.out
          clear HK HTK
          go_wp2
          go_roundg (s.size + 2 - (j + 1))
          case measure => have := HN.out; omega
          case rel =>
            have h := blk_put (cs' := #[.string s, .int .i64 ((j : Int) + 1), .int .i64 k, .string x]) HCUR.out 1 (.int .i64 ((j : Int) + 1)) rfl
            exact ⟨j + 1, 0, rfl, rfl, HB2.out, h, HT.out.set 1 _⟩
      · subst h2
        have h5 : b.toNat ≠ 32 ∧ b.toNat ≠ 9 ∧ b.toNat ≠ 13 ∧ b.toNat ≠ 10 := by
          simp only [isBlank, Bool.or_eq_false_iff, beq_eq_false_iff_ne] at h4
          exact ⟨h4.1, h4.2.1, h4.2.2.1, h4.2.2.2⟩
        obtain ⟨h5, h6, h7, h9⟩ := h5
        have HTJ := Lib.hid h1
        clear h1 hO HB h4
        have gd : decide ((0 : Int) < ((0 : Nat) : Int)) = false := rfl
        have g40 : ((b.toNat : Int) == 40) = false := by rw [beq_eq_false_iff_ne]; omega
        have e32 : ((b.toNat : Int) == 32) = false := by rw [beq_eq_false_iff_ne]; omega
        have e9 : ((b.toNat : Int) == 9) = false := by rw [beq_eq_false_iff_ne]; omega
        have e13 : ((b.toNat : Int) == 13) = false := by rw [beq_eq_false_iff_ne]; omega
        have e10 : ((b.toNat : Int) == 10) = false := by rw [beq_eq_false_iff_ne]; omega
        go_wp2_with fail
        go_quiet (fail)
        have HK := Lib.hid (blk_drewN HCUR.out nq)
        have HTK := Lib.hid (HT.out.drewN nq)
        clear c0 c1 z1 HCUR HT
        generalize wr.drewN nq = wr at *
        have c0 : wr.cell? ⟨c, 0, none⟩ = some (.string s) := cell_of_row wr c 0 _ _ _ HK.out
        have c1 : wr.cell? ⟨c, 1, none⟩ = some (.int .i64 (j : Nat)) := cell_of_row wr c 1 _ _ _ HK.out
        have z1 : wr.frozen? ⟨c, 1, none⟩ = false := frozen_of_row wr c 1 _ _ HK.out
        have HCUR := Lib.hid HK.out
        have HT := Lib.hid HTK.out
        clear HK HTK
        go_wp2_with fail
        go_quiet (fail)
        have HK := Lib.hid (blk_drewN HCUR.out nq)
        have HTK := Lib.hid (HT.out.drewN nq)
        clear c0 c1 z1 HCUR HT
        generalize wr.drewN nq = wr at *
        have c0 : wr.cell? ⟨c, 0, none⟩ = some (.string s) := cell_of_row wr c 0 _ _ _ HK.out
        have c1 : wr.cell? ⟨c, 1, none⟩ = some (.int .i64 (j : Nat)) := cell_of_row wr c 1 _ _ _ HK.out
        have z1 : wr.frozen? ⟨c, 1, none⟩ = false := frozen_of_row wr c 1 _ _ HK.out
        have HCUR := Lib.hid HK.out
        have HT := Lib.hid HTK.out
        clear HK HTK
        go_wp2
        go_still_tail 13, (by kernel_rfl)
        have HK := Lib.hid (blk_drew HCUR.out)
        have HTK := Lib.hid HT.out.drew
        clear c0 c1 z1 HCUR HT
        change wpList _ _ _ _ _ wr.drew
        generalize wr.drew = w3 at *
        have z1 : w3.frozen? ⟨c, 1, none⟩ = false := frozen_of_row w3 c 1 _ _ HK.out
        have c1 : w3.cell? ⟨c, 1, none⟩ = some (.int .i64 (j : Nat)) := cell_of_row w3 c 1 _ _ _ HK.out
        have hnj : ¬ s.size < j := by omega
        go_wp2
        go_end0
        refine ⟨rfl, ?_, HTK.out.set 1 _⟩
        rw [HTJ.out]
        exact blk_put (cs' := #[.string s, .int .i64 (j : Int), .int .i64 k, .string x]) HK.out 1 _ rfl
    · have hg : decide ((j : Int) < (s.size : Int)) = false := decide_eq_false (by omega)
      have hg2 : decide (j < s.size) = false := decide_eq_false (by omega)
      have hTl := bl_done HB.out (by omega)
      have HTL := Lib.hid hTl
      clear hTl
      go_wp2_with fail
      go_quiet (fail)
      go_wp2_with fail
      have HK := Lib.hid (blk_drewN HCUR.out nq)
      have HTK := Lib.hid (HT.out.drewN nq)
      clear c0 c1 z1 HCUR HT
      generalize wr.drewN nq = wr at *
      have c0 : wr.cell? ⟨c, 0, none⟩ = some (.string s) := cell_of_row wr c 0 _ _ _ HK.out
      have c1 : wr.cell? ⟨c, 1, none⟩ = some (.int .i64 (j : Nat)) := cell_of_row wr c 1 _ _ _ HK.out
      have z1 : wr.frozen? ⟨c, 1, none⟩ = false := frozen_of_row wr c 1 _ _ HK.out
      have HCUR := Lib.hid HK.out
      have HT := Lib.hid HTK.out
      clear HK HTK
      go_still_tail 13, (by kernel_rfl)
      have HK := Lib.hid (blk_drew HCUR.out)
      have HTK := Lib.hid HT.out.drew
      clear c0 c1 z1 HCUR HT
      change wpList _ _ _ _ _ wr.drew
      generalize wr.drew = w3 at *
      have z1 : w3.frozen? ⟨c, 1, none⟩ = false := frozen_of_row w3 c 1 _ _ HK.out
      have c1 : w3.cell? ⟨c, 1, none⟩ = some (.int .i64 (j : Nat)) := cell_of_row w3 c 1 _ _ _ HK.out
      have hTs : T = s.size := by have := HTL.out; omega
      have HTS := Lib.hid hTs
      clear hTs
      by_cases hq : s.size < j
      · go_wp2
        go_end0
        refine ⟨rfl, ?_, HTK.out.set 1 _⟩
        rw [HTS.out]
        exact blk_put (cs' := #[.string s, .int .i64 (s.size : Int), .int .i64 k, .string x]) HK.out 1 _ rfl
      · have HJ := Lib.hid (show j = s.size by omega)
        go_wp2
        go_end0
        refine ⟨rfl, ?_, HTK.out.set 1 _⟩
        rw [HTS.out, ← HJ.out]
        exact blk_put (cs' := #[.string s, .int .i64 (j : Int), .int .i64 k, .string x]) HK.out 1 _ rfl
end Go.Proofs.YtjlchnmpebdggaaDoor.Mo
end
section
namespace Go.Proofs.YtjlchnmpebdggaaDoor.Mo
open Go.RowKit Go.Proofs.YtjlchnmpebdggaaDoorW.PrintWords
theorem blanksL_le : ∀ (n : Nat) (l : List UInt8) (d : Nat), l.length ≤ n → blanksL l d ≤ l.length
  | n, [], d, _ => by unfold blanksL; exact Nat.le_refl _
  | n + 1, c :: r, d, h => by
    rw [List.length_cons] at h
    have h1 := blanksL_le n r
    unfold blanksL
    rw [List.length_cons]
    split
    · have := h1 (d + 1) (by omega); omega
    · split
      · have := h1 (d - 1) (by omega); omega
      · split
        · cases r with
          | nil => simp
          | cons y r' =>
            have := blanksL_le n r' d (by rw [List.length_cons] at h; omega)
            rw [List.length_cons]
            simp only
            omega
        · split
          · have := h1 d (by omega); omega
          · omega
theorem blankP_le (l : List UInt8) (i : Nat) (h : i ≤ l.length) : blankP l i ≤ l.length ∧ i ≤ blankP l i := by
  unfold blankP
  have := blanksL_le _ (l.drop i) 0 (Nat.le_refl _)
  rw [List.length_drop] at this
  omega
def pieceAt (l : List UInt8) (i : Nat) : Nat × Int :=
  let b := l.getD i 0
  if isLet b = true then (runP isLet l (i + 1), 1)
  else if isDig b = true then (runP isDig l (i + 1), 2)
  else if b.toNat = 43 ∨ b.toNat = 45 then (runP isDig l (i + 1), if i + 1 < runP isDig l (i + 1) then 3 else 6)
  else if b.toNat = 44 then (i + 1, 4) else if b.toNat = 58 then (i + 1, 5) else (i + 1, 6)
def nextP (s : ByteArray) (i : Nat) : Nat × Int × ByteArray :=
  let f := blankP s.data.toList i
  if f = s.size then (f, 0, ⟨#[]⟩) else ((pieceAt s.data.toList f).1, (pieceAt s.data.toList f).2, s.extract f (pieceAt s.data.toList f).1)
theorem pieceAt_le (l : List UInt8) (i : Nat) (h : i < l.length) : i + 1 ≤ (pieceAt l i).1 ∧ (pieceAt l i).1 ≤ l.length := by
  have h1 := runP_le isLet l (i + 1) (by omega)
  have h2 := runP_le isDig l (i + 1) (by omega)
  unfold pieceAt
  simp only
  repeat' split
  all_goals (simp only; omega)
theorem nextP_le (s : ByteArray) (i : Nat) (h : i ≤ s.size) : (nextP s i).1 ≤ s.size := by
  have hl := toList_len s
  have h1 := blankP_le s.data.toList i (by omega)
  unfold nextP
  simp only
  split
  · omega
  · have := pieceAt_le s.data.toList (blankP s.data.toList i) (by omega)
    simp only
    omega
theorem cur4 {c t : Nat} {s : ByteArray} {i : Nat} {k : Int} {x : ByteArray} {w : World} (h : Cur c t s i k x w) :
    w.cell? ⟨c, 0, none⟩ = some (.string s) ∧ w.cell? ⟨c, 1, none⟩ = some (.int .i64 (i : Nat)) ∧ w.cell? ⟨c, 2, none⟩ = some (.int .i64 k) ∧ w.cell? ⟨c, 3, none⟩ = some (.string x) ∧
    w.frozen? ⟨c, 1, none⟩ = false ∧ w.frozen? ⟨c, 2, none⟩ = false ∧ w.frozen? ⟨c, 3, none⟩ = false := by
  have h' : w.heap[c]? = some (.cells #[.string s, .int .i64 i, .int .i64 k, .string x] t (0, 0)) := h
  exact ⟨cell_of_row w c 0 _ _ _ h', cell_of_row w c 1 _ _ _ h', cell_of_row w c 2 _ _ _ h', cell_of_row w c 3 _ _ _ h', frozen_of_row w c 1 _ _ h', frozen_of_row w c 2 _ _ h', frozen_of_row w c 3 _ _ h'⟩
theorem Cur.at_ {c t : Nat} {s : ByteArray} {i : Nat} {k : Int} {x : ByteArray} {w : World} (h : Cur c t s i k x w) (j : Nat) (v : Value) (hv : v = .int .i64 (j : Nat)) : Cur c t s j k x (w.setCell ⟨c, 1, none⟩ v) := by
  subst hv; exact blk_put (cs' := #[.string s, .int .i64 (j : Nat), .int .i64 k, .string x]) h 1 _ rfl
theorem Cur.kind {c t : Nat} {s : ByteArray} {i : Nat} {k : Int} {x : ByteArray} {w : World} (h : Cur c t s i k x w) (k' : Int) : Cur c t s i k' x (w.setCell ⟨c, 2, none⟩ (.int .i64 k')) :=
  blk_put (cs' := #[.string s, .int .i64 i, .int .i64 k', .string x]) h 2 _ rfl
theorem Cur.text {c t : Nat} {s : ByteArray} {i : Nat} {k : Int} {x : ByteArray} {w : World} (h : Cur c t s i k x w) (y : ByteArray) : Cur c t s i k y (w.setCell ⟨c, 3, none⟩ (.string y)) :=
  blk_put (cs' := #[.string s, .int .i64 i, .int .i64 k, .string y]) h 3 _ rfl
theorem Cur.drewN {c t : Nat} {s : ByteArray} {i : Nat} {k : Int} {x : ByteArray} {w : World} (h : Cur c t s i k x w) (n : Nat) : Cur c t s i k x (w.drewN n) := h
theorem Cur.drew {c t : Nat} {s : ByteArray} {i : Nat} {k : Int} {x : ByteArray} {w : World} (h : Cur c t s i k x w) : Cur c t s i k x w.drew := h
set_option maxHeartbeats 2000000 in
set_option maxRecDepth 100000 in
theorem next_calls (c t : Nat) (s : ByteArray) (i : Nat) (k : Int) (x : ByteArray) (w : World) (hs : s.size ≤ 140737488351232) (hi : i ≤ s.size) (hc : Cur c t s i k x w) :
    Calls Tryd.prog 52 #[.pointer (some ⟨c, 0, none⟩)] w fun e w' => e = .returned (.tuple #[]) ∧ Cur c t s (nextP s i).1 (nextP s i).2.1 (nextP s i).2.2 w' ∧ Turned c w w' := by
  have hl := toList_len s
  have HC0 := Lib.hid hc
  clear hc
  have hf := blankP_le s.data.toList i (by omega)
  have hbl := fun w k x h => blanks_calls c t s i k x w hs hi h
  have hNX : Hid (nextP s i = if blankP s.data.toList i = s.size then (blankP s.data.toList i, 0, ⟨#[]⟩) else ((pieceAt s.data.toList (blankP s.data.toList i)).1, (pieceAt s.data.toList (blankP s.data.toList i)).2, s.extract (blankP s.data.toList i) (pieceAt s.data.toList (blankP s.data.toList i)).1)) := Lib.hid rfl
  generalize blankP s.data.toList i = f at *
  have HBL := Lib.hid hbl
  clear hbl
  go_enter Tryd.func52, Tryd.ntmps52
  go_wp2_with fail
  refine (HBL.out w k x HC0.out).mono ?_
  rintro e w1 ⟨rfl, hc1, ht1⟩
  have HC := Lib.hid hc1
  have HT := Lib.hid ht1
  clear hc1 ht1 HBL
  obtain ⟨c0, c1, c2, c3, z1, z2, z3⟩ := cur4 HC.out
  have hfl : f ≤ s.size := by omega
  by_cases hz : f = s.size
  · have hq : ((f : Int) == (s.size : Int)) = true := by rw [beq_iff_eq]; omega
    have HP : Hid (nextP s i = (f, 0, ⟨#[]⟩)) := by show nextP s i = _; rw [hNX.out, if_pos hz]
    clear hNX
    have HZ := Lib.hid hz
    clear hz
    go_wp2
    exact bodyPost_ret (v := .tuple #[]) (by simp [results, Tryd.results52, go_sem]) rfl ⟨rfl, by rw [HP.out]; exact (HC.out.kind 0).text ⟨#[]⟩, (HT.out.set 2 _).set 3 _⟩
  · have hq : ((f : Int) == (s.size : Int)) = false := by rw [beq_eq_false_iff_ne]; omega
    have hlt : f < s.size := by omega
    have hx0 : (0 : Int) ≤ (f : Int) := by omega
    have hx1 : (f : Int) < (s.size : Int) := by omega
    have hlen : f < s.data.toList.length := by omega
    obtain ⟨b, hb⟩ : ∃ b, s[f]'hlt = b := ⟨_, rfl⟩
    have hgb : s.data.toList.getD f 0 = b := by rw [List.getD_eq_getElem?_getD, List.getElem?_eq_getElem hlen]; exact hb
    have HP0 : Hid (nextP s i = ((pieceAt s.data.toList f).1, (pieceAt s.data.toList f).2, s.extract f (pieceAt s.data.toList f).1)) := by show nextP s i = _; rw [hNX.out, if_neg hz]
    have HPI : Hid (pieceAt s.data.toList f = if isLet b = true then (runP isLet s.data.toList (f + 1), 1) else if isDig b = true then (runP isDig s.data.toList (f + 1), 2)
      else if b.toNat = 43 ∨ b.toNat = 45 then (runP isDig s.data.toList (f + 1), if f + 1 < runP isDig s.data.toList (f + 1) then 3 else 6)
      else if b.toNat = 44 then (f + 1, 4) else if b.toNat = 58 then (f + 1, 5) else (f + 1, 6)) := by show pieceAt s.data.toList f = _; unfold pieceAt; simp only [hgb]
    have hd1 := runP_le isDig s.data.toList (f + 1) (by omega)
    have hd2 := runP_le isLet s.data.toList (f + 1) (by omega)
    clear hNX hz hgb
    go_wp2_with fail
    have HC1 := Lib.hid (HC.out.at_ (f + 1) (.int .i64 ((f : Int) + 1)) rfl)
    have HT1 := Lib.hid (HT.out.set 1 (.int .i64 ((f : Int) + 1)))
    clear c0 c1 c2 c3 z1 z2 z3 HC HT
    generalize w1.setCell ⟨c, 1, none⟩ (.int .i64 ((f : Int) + 1)) = wr at *
    cases hL : isLet b with
    | true =>
      have HP : Hid (nextP s i = (runP isLet s.data.toList (f + 1), 1, s.extract f (runP isLet s.data.toList (f + 1)))) := by show nextP s i = _; rw [HP0.out, HPI.out, if_pos hL]
      have htl := asks_letter.tells b
      rw [hL] at htl
      have HTL := Lib.hid htl
      have hrun := fun w k x h => run_calls 89 isLet asks_letter c t s (f + 1) k x w hs (by omega) h
      have HRUN := Lib.hid hrun
      have hentry := asks_letter.entry
      clear htl hL HP0 HPI hrun
      generalize runP isLet s.data.toList (f + 1) = j at *
      refine (HTL.out _).mono ?_
      rintro e w2 ⟨rfl, ⟨nd, rfl⟩⟩
      have HC2 := Lib.hid (HC1.out.drewN nd)
      have HT2 := Lib.hid (HT1.out.drewN nd)
      clear HC1 HT1
      generalize wr.drewN nd = wr at *
      obtain ⟨c0, c1, c2, c3, z1, z2, z3⟩ := cur4 HC2.out
      go_wp2_with fail
      refine (HRUN.out _ _ _ (HC2.out.kind 1)).mono ?_
      rintro e w3 ⟨rfl, hc3, ht3⟩
      have HC := Lib.hid hc3
      have HT := Lib.hid ((HT2.out.set 2 (.int .i64 1)).trans ht3)
      clear c0 c1 c2 c3 z1 z2 z3 hc3 ht3 HC2 HT2
      generalize w3 = wr at *
      have hsl : ∀ w' : World, (Instr.slice 9 (.string s) (some (.int .i64 (f : Int))) (some (.int .i64 (j : Int))) none).run Tryd.prog w' = .ok (.string (s.extract f j)) w' := fun w' => by
        rw [run_slice_string (P := Tryd.prog) w' 9 s .i64 .i64 (f : Int) (j : Int) Tryd.underlying9 (by omega) (by omega) (by omega), Int.toNat_natCast, Int.toNat_natCast]
      obtain ⟨c0, c1, c2, c3, z1, z2, z3⟩ := cur4 HC.out
      go_wp2_with fail
      go_still_tail 13, (by kernel_rfl)
      have HK := Lib.hid HC.out.drew
      have HTK := Lib.hid HT.out.drew
      clear c0 c1 c2 c3 z1 z2 z3 HC HT
      change wpList _ _ _ _ _ (World.drew _)
      generalize World.drew _ = w9 at *
      obtain ⟨c0, c1, c2, c3, z1, z2, z3⟩ := cur4 HK.out
      go_wp2
      go_end0
      exact ⟨rfl, by rw [HP.out]; exact HK.out.text _, HTK.out.set 3 _⟩
    | false =>
      have htl := asks_letter.tells b
      rw [hL] at htl
      have HTL := Lib.hid htl
      have HPJ : Hid (pieceAt s.data.toList f = if isDig b = true then (runP isDig s.data.toList (f + 1), 2)
        else if b.toNat = 43 ∨ b.toNat = 45 then (runP isDig s.data.toList (f + 1), if f + 1 < runP isDig s.data.toList (f + 1) then 3 else 6)
        else if b.toNat = 44 then (f + 1, 4) else if b.toNat = 58 then (f + 1, 5) else (f + 1, 6)) := by show pieceAt s.data.toList f = _; rw [HPI.out, if_neg (by simp [hL])]
      clear htl hL HPI
      refine (HTL.out _).mono ?_
      rintro e w2 ⟨rfl, ⟨nd, rfl⟩⟩
      have HC2 := Lib.hid (HC1.out.drewN nd)
      have HT2 := Lib.hid (HT1.out.drewN nd)
      clear HC1 HT1
      generalize wr.drewN nd = wr at *
      go_wp2_with fail
      cases hL : isDig b with
      | true =>
        have HP : Hid (nextP s i = (runP isDig s.data.toList (f + 1), 2, s.extract f (runP isDig s.data.toList (f + 1)))) := by show nextP s i = _; rw [HP0.out, HPJ.out, if_pos hL]
        have htl := asks_digit.tells b
        rw [hL] at htl
        have HTL := Lib.hid htl
        have hrun := fun w k x h => run_calls 91 isDig asks_digit c t s (f + 1) k x w hs (by omega) h
        have HRUN := Lib.hid hrun
        have hentry := asks_digit.entry
        clear htl hL HP0 HPJ hrun
        generalize runP isDig s.data.toList (f + 1) = j at *
        refine (HTL.out _).mono ?_
        rintro e w2 ⟨rfl, ⟨nd, rfl⟩⟩
        have HC3 := Lib.hid (HC2.out.drewN nd)
        have HT3 := Lib.hid (HT2.out.drewN nd)
        clear HC2 HT2
        generalize wr.drewN nd = wr at *
        obtain ⟨c0, c1, c2, c3, z1, z2, z3⟩ := cur4 HC3.out
        go_wp2_with fail
        refine (HRUN.out _ _ _ (HC3.out.kind 2)).mono ?_
        rintro e w3 ⟨rfl, hc3, ht3⟩
        have HC := Lib.hid hc3
        have HT := Lib.hid ((HT3.out.set 2 (.int .i64 2)).trans ht3)
        clear c0 c1 c2 c3 z1 z2 z3 hc3 ht3 HC3 HT3
        generalize w3 = wr at *
        have hsl : ∀ w' : World, (Instr.slice 9 (.string s) (some (.int .i64 (f : Int))) (some (.int .i64 (j : Int))) none).run Tryd.prog w' = .ok (.string (s.extract f j)) w' := fun w' => by
          rw [run_slice_string (P := Tryd.prog) w' 9 s .i64 .i64 (f : Int) (j : Int) Tryd.underlying9 (by omega) (by omega) (by omega), Int.toNat_natCast, Int.toNat_natCast]
        obtain ⟨c0, c1, c2, c3, z1, z2, z3⟩ := cur4 HC.out
        go_wp2_with fail
        go_still_tail 13, (by kernel_rfl)
        have HK := Lib.hid HC.out.drew
        have HTK := Lib.hid HT.out.drew
        clear c0 c1 c2 c3 z1 z2 z3 HC HT
        change wpList _ _ _ _ _ (World.drew _)
        generalize World.drew _ = w9 at *
        obtain ⟨c0, c1, c2, c3, z1, z2, z3⟩ := cur4 HK.out
        go_wp2
        go_end0
        exact ⟨rfl, by rw [HP.out]; exact HK.out.text _, HTK.out.set 3 _⟩
      | false =>
        have htl := asks_digit.tells b
        rw [hL] at htl
        have HTL := Lib.hid htl
        have HPK : Hid (pieceAt s.data.toList f = if b.toNat = 43 ∨ b.toNat = 45 then (runP isDig s.data.toList (f + 1), if f + 1 < runP isDig s.data.toList (f + 1) then 3 else 6)
          else if b.toNat = 44 then (f + 1, 4) else if b.toNat = 58 then (f + 1, 5) else (f + 1, 6)) := by show pieceAt s.data.toList f = _; rw [HPJ.out, if_neg (by simp [hL])]
        clear htl hL HPJ
        refine (HTL.out _).mono ?_
        rintro e w2 ⟨rfl, ⟨nd, rfl⟩⟩
        have HC3 := Lib.hid (HC2.out.drewN nd)
        have HT3 := Lib.hid (HT2.out.drewN nd)
        clear HC2 HT2
        generalize wr.drewN nd = wr at *
        obtain ⟨c0, c1, c2, c3, z1, z2, z3⟩ := cur4 HC3.out
        by_cases hsg : b.toNat = 43 ∨ b.toNat = 45
        · have HP1 : Hid (nextP s i = (runP isDig s.data.toList (f + 1), (if f + 1 < runP isDig s.data.toList (f + 1) then 3 else 6 : Int), s.extract f (runP isDig s.data.toList (f + 1)))) := by show nextP s i = _; rw [HP0.out, HPK.out, if_pos hsg]
          have hrun := fun w k x h => run_calls 91 isDig asks_digit c t s (f + 1) k x w hs (by omega) h
          have HRUN := Lib.hid hrun
          have hentry := asks_digit.entry
          clear HP0 HPK hrun
          generalize runP isDig s.data.toList (f + 1) = j at *
          have hsg2 : b.toNat = 43 ∨ b.toNat ≠ 43 ∧ b.toNat = 45 := by omega
          clear hsg
          rcases hsg2 with h43 | ⟨h43, h45⟩
          · have g43 : ((b.toNat : Int) == 43) = true := by rw [beq_iff_eq]; omega
            go_wp2_with fail
            refine (HRUN.out _ _ _ (HC3.out.kind 6)).mono ?_
            rintro e w3 ⟨rfl, hc3, ht3⟩
            have HC4 := Lib.hid hc3
            have HT4 := Lib.hid ((HT3.out.set 2 (.int .i64 6)).trans ht3)
            clear c0 c1 c2 c3 z1 z2 z3 hc3 ht3 HC3 HT3
            obtain ⟨c0, c1, c2, c3, z1, z2, z3⟩ := cur4 HC4.out
            by_cases hj : f + 1 < j
            · have HP : Hid (nextP s i = (j, 3, s.extract f j)) := by show nextP s i = _; rw [HP1.out, if_pos hj]
              clear HP1
              go_upto_region 22 with fail
              have HC := Lib.hid (HC4.out.kind 3)
              have HT := Lib.hid (HT4.out.set 2 (.int .i64 3))
              clear c0 c1 c2 c3 z1 z2 z3 HC4 HT4
              generalize w3.setCell ⟨c, 2, none⟩ (.int .i64 3) = wr at *
              have hsl : ∀ w' : World, (Instr.slice 9 (.string s) (some (.int .i64 (f : Int))) (some (.int .i64 (j : Int))) none).run Tryd.prog w' = .ok (.string (s.extract f j)) w' := fun w' => by
                rw [run_slice_string (P := Tryd.prog) w' 9 s .i64 .i64 (f : Int) (j : Int) Tryd.underlying9 (by omega) (by omega) (by omega), Int.toNat_natCast, Int.toNat_natCast]
              obtain ⟨c0, c1, c2, c3, z1, z2, z3⟩ := cur4 HC.out
              go_wp2_with fail
              go_still_tail 13, (by kernel_rfl)
              have HK := Lib.hid HC.out.drew
              have HTK := Lib.hid HT.out.drew
              clear c0 c1 c2 c3 z1 z2 z3 HC HT
              change wpList _ _ _ _ _ (World.drew _)
              generalize World.drew _ = w9 at *
              obtain ⟨c0, c1, c2, c3, z1, z2, z3⟩ := cur4 HK.out
              go_wp2
              go_end0
              exact ⟨rfl, by rw [HP.out]; exact HK.out.text _, HTK.out.set 3 _⟩
            · have HP : Hid (nextP s i = (j, 6, s.extract f j)) := by show nextP s i = _; rw [HP1.out, if_neg hj]
              clear HP1
              go_upto_region 22 with fail
              have HC := Lib.hid HC4.out
              have HT := Lib.hid HT4.out
              clear c0 c1 c2 c3 z1 z2 z3 HC4 HT4
              generalize w3 = wr at *
              have hsl : ∀ w' : World, (Instr.slice 9 (.string s) (some (.int .i64 (f : Int))) (some (.int .i64 (j : Int))) none).run Tryd.prog w' = .ok (.string (s.extract f j)) w' := fun w' => by
                rw [run_slice_string (P := Tryd.prog) w' 9 s .i64 .i64 (f : Int) (j : Int) Tryd.underlying9 (by omega) (by omega) (by omega), Int.toNat_natCast, Int.toNat_natCast]
              obtain ⟨c0, c1, c2, c3, z1, z2, z3⟩ := cur4 HC.out
              go_wp2_with fail
              go_still_tail 13, (by kernel_rfl)
              have HK := Lib.hid HC.out.drew
              have HTK := Lib.hid HT.out.drew
              clear c0 c1 c2 c3 z1 z2 z3 HC HT
              change wpList _ _ _ _ _ (World.drew _)
              generalize World.drew _ = w9 at *
              obtain ⟨c0, c1, c2, c3, z1, z2, z3⟩ := cur4 HK.out
              go_wp2
              go_end0
              exact ⟨rfl, by rw [HP.out]; exact HK.out.text _, HTK.out.set 3 _⟩
          · have g43 : ((b.toNat : Int) == 43) = false := by rw [beq_eq_false_iff_ne]; omega
            have g45 : ((b.toNat : Int) == 45) = true := by rw [beq_iff_eq]; omega
            go_wp2_with fail
            refine (HRUN.out _ _ _ (HC3.out.kind 6)).mono ?_
            rintro e w3 ⟨rfl, hc3, ht3⟩
            have HC4 := Lib.hid hc3
            have HT4 := Lib.hid ((HT3.out.set 2 (.int .i64 6)).trans ht3)
            clear c0 c1 c2 c3 z1 z2 z3 hc3 ht3 HC3 HT3
            obtain ⟨c0, c1, c2, c3, z1, z2, z3⟩ := cur4 HC4.out
            by_cases hj : f + 1 < j
            · have HP : Hid (nextP s i = (j, 3, s.extract f j)) := by show nextP s i = _; rw [HP1.out, if_pos hj]
              clear HP1
              go_upto_region 22 with fail
              have HC := Lib.hid (HC4.out.kind 3)
              have HT := Lib.hid (HT4.out.set 2 (.int .i64 3))
              clear c0 c1 c2 c3 z1 z2 z3 HC4 HT4
              generalize w3.setCell ⟨c, 2, none⟩ (.int .i64 3) = wr at *
              have hsl : ∀ w' : World, (Instr.slice 9 (.string s) (some (.int .i64 (f : Int))) (some (.int .i64 (j : Int))) none).run Tryd.prog w' = .ok (.string (s.extract f j)) w' := fun w' => by
                rw [run_slice_string (P := Tryd.prog) w' 9 s .i64 .i64 (f : Int) (j : Int) Tryd.underlying9 (by omega) (by omega) (by omega), Int.toNat_natCast, Int.toNat_natCast]
              obtain ⟨c0, c1, c2, c3, z1, z2, z3⟩ := cur4 HC.out
              go_wp2_with fail
              go_still_tail 13, (by kernel_rfl)
              have HK := Lib.hid HC.out.drew
              have HTK := Lib.hid HT.out.drew
              clear c0 c1 c2 c3 z1 z2 z3 HC HT
              change wpList _ _ _ _ _ (World.drew _)
              generalize World.drew _ = w9 at *
              obtain ⟨c0, c1, c2, c3, z1, z2, z3⟩ := cur4 HK.out
              go_wp2
              go_end0
              exact ⟨rfl, by rw [HP.out]; exact HK.out.text _, HTK.out.set 3 _⟩
            · have HP : Hid (nextP s i = (j, 6, s.extract f j)) := by show nextP s i = _; rw [HP1.out, if_neg hj]
              clear HP1
              go_upto_region 22 with fail
              have HC := Lib.hid HC4.out
              have HT := Lib.hid HT4.out
              clear c0 c1 c2 c3 z1 z2 z3 HC4 HT4
              generalize w3 = wr at *
              have hsl : ∀ w' : World, (Instr.slice 9 (.string s) (some (.int .i64 (f : Int))) (some (.int .i64 (j : Int))) none).run Tryd.prog w' = .ok (.string (s.extract f j)) w' := fun w' => by
                rw [run_slice_string (P := Tryd.prog) w' 9 s .i64 .i64 (f : Int) (j : Int) Tryd.underlying9 (by omega) (by omega) (by omega), Int.toNat_natCast, Int.toNat_natCast]
              obtain ⟨c0, c1, c2, c3, z1, z2, z3⟩ := cur4 HC.out
              go_wp2_with fail
              go_still_tail 13, (by kernel_rfl)
              have HK := Lib.hid HC.out.drew
              have HTK := Lib.hid HT.out.drew
              clear c0 c1 c2 c3 z1 z2 z3 HC HT
              change wpList _ _ _ _ _ (World.drew _)
              generalize World.drew _ = w9 at *
              obtain ⟨c0, c1, c2, c3, z1, z2, z3⟩ := cur4 HK.out
              go_wp2
              go_end0
              exact ⟨rfl, by rw [HP.out]; exact HK.out.text _, HTK.out.set 3 _⟩
        · have h43 : b.toNat ≠ 43 := fun h => hsg (.inl h)
          have h45 : b.toNat ≠ 45 := fun h => hsg (.inr h)
          have g43 : ((b.toNat : Int) == 43) = false := by rw [beq_eq_false_iff_ne]; omega
          have g45 : ((b.toNat : Int) == 45) = false := by rw [beq_eq_false_iff_ne]; omega
          have HPL : Hid (pieceAt s.data.toList f = if b.toNat = 44 then (f + 1, 4) else if b.toNat = 58 then (f + 1, 5) else (f + 1, 6)) := by show pieceAt s.data.toList f = _; rw [HPK.out, if_neg hsg]
          clear HPK hsg
          by_cases h44 : b.toNat = 44
          · have g44 : ((b.toNat : Int) == 44) = true := by rw [beq_iff_eq]; omega
            have HP : Hid (nextP s i = (f + 1, 4, s.extract f (f + 1))) := by show nextP s i = _; rw [HP0.out, HPL.out, if_pos h44]
            clear HP0 HPL
            go_upto_region 22 with fail
            have HC := Lib.hid (HC3.out.kind 4)
            have HT := Lib.hid (HT3.out.set 2 (.int .i64 4))
            clear c0 c1 c2 c3 z1 z2 z3 HC3 HT3
            generalize wr.setCell ⟨c, 2, none⟩ (.int .i64 4) = wr at *
            obtain ⟨j, hj⟩ : ∃ j, j = f + 1 := ⟨_, rfl⟩
            rw [← hj] at HC HP
            have hj1 : f ≤ j := by omega
            have hj2 : j ≤ s.size := by omega
            clear hj hd1 hd2
            have hsl : ∀ w' : World, (Instr.slice 9 (.string s) (some (.int .i64 (f : Int))) (some (.int .i64 (j : Int))) none).run Tryd.prog w' = .ok (.string (s.extract f j)) w' := fun w' => by
              rw [run_slice_string (P := Tryd.prog) w' 9 s .i64 .i64 (f : Int) (j : Int) Tryd.underlying9 (by omega) (by omega) (by omega), Int.toNat_natCast, Int.toNat_natCast]
            obtain ⟨c0, c1, c2, c3, z1, z2, z3⟩ := cur4 HC.out
            go_wp2_with fail
            go_still_tail 13, (by kernel_rfl)
            have HK := Lib.hid HC.out.drew
            have HTK := Lib.hid HT.out.drew
            clear c0 c1 c2 c3 z1 z2 z3 HC HT
            change wpList _ _ _ _ _ (World.drew _)
            generalize World.drew _ = w9 at *
            obtain ⟨c0, c1, c2, c3, z1, z2, z3⟩ := cur4 HK.out
            go_wp2
            go_end0
            exact ⟨rfl, by rw [HP.out]; exact HK.out.text _, HTK.out.set 3 _⟩
          · have g44 : ((b.toNat : Int) == 44) = false := by rw [beq_eq_false_iff_ne]; omega
            by_cases h58 : b.toNat = 58
            · have g58 : ((b.toNat : Int) == 58) = true := by rw [beq_iff_eq]; omega
              have HP : Hid (nextP s i = (f + 1, 5, s.extract f (f + 1))) := by show nextP s i = _; rw [HP0.out, HPL.out, if_neg h44, if_pos h58]
              clear HP0 HPL
              go_upto_region 22 with fail
              have HC := Lib.hid (HC3.out.kind 5)
              have HT := Lib.hid (HT3.out.set 2 (.int .i64 5))
              clear c0 c1 c2 c3 z1 z2 z3 HC3 HT3
              generalize wr.setCell ⟨c, 2, none⟩ (.int .i64 5) = wr at *
              obtain ⟨j, hj⟩ : ∃ j, j = f + 1 := ⟨_, rfl⟩
              rw [← hj] at HC HP
              have hj1 : f ≤ j := by omega
              have hj2 : j ≤ s.size := by omega
              clear hj hd1 hd2
              have hsl : ∀ w' : World, (Instr.slice 9 (.string s) (some (.int .i64 (f : Int))) (some (.int .i64 (j : Int))) none).run Tryd.prog w' = .ok (.string (s.extract f j)) w' := fun w' => by
                rw [run_slice_string (P := Tryd.prog) w' 9 s .i64 .i64 (f : Int) (j : Int) Tryd.underlying9 (by omega) (by omega) (by omega), Int.toNat_natCast, Int.toNat_natCast]
              obtain ⟨c0, c1, c2, c3, z1, z2, z3⟩ := cur4 HC.out
              go_wp2_with fail
              go_still_tail 13, (by kernel_rfl)
              have HK := Lib.hid HC.out.drew
              have HTK := Lib.hid HT.out.drew
              clear c0 c1 c2 c3 z1 z2 z3 HC HT
              change wpList _ _ _ _ _ (World.drew _)
              generalize World.drew _ = w9 at *
              obtain ⟨c0, c1, c2, c3, z1, z2, z3⟩ := cur4 HK.out
              go_wp2
              go_end0
              exact ⟨rfl, by rw [HP.out]; exact HK.out.text _, HTK.out.set 3 _⟩
            · have g58 : ((b.toNat : Int) == 58) = false := by rw [beq_eq_false_iff_ne]; omega
              have HP : Hid (nextP s i = (f + 1, 6, s.extract f (f + 1))) := by show nextP s i = _; rw [HP0.out, HPL.out, if_neg h44, if_neg h58]
              clear HP0 HPL
              go_upto_region 22 with fail
              have HC := Lib.hid (HC3.out.kind 6)
              have HT := Lib.hid (HT3.out.set 2 (.int .i64 6))
              clear c0 c1 c2 c3 z1 z2 z3 HC3 HT3
              generalize wr.setCell ⟨c, 2, none⟩ (.int .i64 6) = wr at *
              obtain ⟨j, hj⟩ : ∃ j, j = f + 1 := ⟨_, rfl⟩
              rw [← hj] at HC HP
              have hj1 : f ≤ j := by omega
              have hj2 : j ≤ s.size := by omega
              clear hj hd1 hd2
              have hsl : ∀ w' : World, (Instr.slice 9 (.string s) (some (.int .i64 (f : Int))) (some (.int .i64 (j : Int))) none).run Tryd.prog w' = .ok (.string (s.extract f j)) w' := fun w' => by
                rw [run_slice_string (P := Tryd.prog) w' 9 s .i64 .i64 (f : Int) (j : Int) Tryd.underlying9 (by omega) (by omega) (by omega), Int.toNat_natCast, Int.toNat_natCast]
              obtain ⟨c0, c1, c2, c3, z1, z2, z3⟩ := cur4 HC.out
              go_wp2_with fail
              go_still_tail 13, (by kernel_rfl)
              have HK := Lib.hid HC.out.drew
              have HTK := Lib.hid HT.out.drew
              clear c0 c1 c2 c3 z1 z2 z3 HC HT
              change wpList _ _ _ _ _ (World.drew _)
              generalize World.drew _ = w9 at *
              obtain ⟨c0, c1, c2, c3, z1, z2, z3⟩ := cur4 HK.out
              go_wp2
              go_end0
              exact ⟨rfl, by rw [HP.out]; exact HK.out.text _, HTK.out.set 3 _⟩
end Go.Proofs.YtjlchnmpebdggaaDoor.Mo
end
section
namespace Go.Proofs.YtjlchnmpebdggaaDoor.Mo
open Go.RowKit Go.Proofs.YtjlchnmpebdggaaDoorW.PrintWords Go.Proofs.YtjlchnmpebdggaaDoorW.PrintLast Go.Proofs.YtjlchnmpebdggaaDoorW.PrintMore
set_option linter.unusedSimpArgs false
set_option linter.unusedVariables false
attribute [local go_sem] max2_int min2_int max_two min_two
theorem ret_tup2 {a b : Int} {p r : Bool} (h : a = b) (h2 : p = r) : Ending.returned (.tuple #[.int .i64 a, .bool p]) = .returned (.tuple #[.int .i64 b, .bool r]) := by rw [h, h2]
abbrev St := Nat × Int × ByteArray
def CurS (c t : Nat) (s : ByteArray) (q : St) (w : World) : Prop := Cur c t s q.1 q.2.1 q.2.2 w
def nx (s : ByteArray) (q : St) : St := nextP s q.1
theorem nx_calls (c t : Nat) (s : ByteArray) (q : St) (w : World) (hs : s.size ≤ 140737488351232) (hi : q.1 ≤ s.size) (hc : CurS c t s q w) :
    Calls Tryd.prog 52 #[.pointer (some ⟨c, 0, none⟩)] w fun e w' => e = .returned (.tuple #[]) ∧ CurS c t s (nx s q) w' ∧ Turned c w w' := next_calls c t s q.1 q.2.1 q.2.2 w hs hi hc
theorem nx_le (s : ByteArray) (q : St) (h : q.1 ≤ s.size) : (nx s q).1 ≤ s.size := nextP_le s q.1 h
theorem sign_calls (c t : Nat) (s : ByteArray) (q : St) (kind : Int) (w : World) (hs : s.size ≤ 140737488351232) (hi : q.1 ≤ s.size) (hc : CurS c t s q w) :
    Calls Tryd.prog 57 #[.pointer (some ⟨c, 0, none⟩), .int .i64 kind] w fun e w' => e = .returned (.bool (q.2.1 == kind)) ∧ CurS c t s (nx s q) w' ∧ Turned c w w' := by
  obtain ⟨i, k, x⟩ := q
  obtain ⟨c0, c1, c2, c3, z1, z2, z3⟩ := cur4 hc
  have HC := Lib.hid hc
  clear hc
  go_enter Tryd.func57, Tryd.ntmps57
  go_wp2_with fail
  refine (nx_calls c t s (i, k, x) _ hs hi HC.out).mono ?_
  rintro e w1 ⟨rfl, h1, h2⟩
  have H1 := Lib.hid h1
  have H2 := Lib.hid h2
  clear h1 h2 c0 c1 c2 c3 z1 z2 z3
  go_wp2
  go_ret
  exact ⟨rfl, H1.out, H2.out⟩
def shortP (most : Int) (q : St) : Int × Bool := ((digitsP q.2.2).1, (digitsP q.2.2).2 && (q.2.1 == 2 && (decide (q.2.2.size ≤ 2) && decide ((digitsP q.2.2).1 ≤ most))))
set_option maxHeartbeats 1000000 in
theorem short_calls (c t : Nat) (s : ByteArray) (q : St) (most : Int) (w : World) (hs : s.size ≤ 140737488351232) (hi : q.1 ≤ s.size) (hc : CurS c t s q w) :
    Calls Tryd.prog 54 #[.pointer (some ⟨c, 0, none⟩), .int .i64 most] w fun e w' => e = .returned (.tuple #[.int .i64 (shortP most q).1, .bool (shortP most q).2]) ∧ CurS c t s (nx s q) w' ∧ Turned c w w' := by
  obtain ⟨i, k, x⟩ := q
  obtain ⟨c0, c1, c2, c3, z1, z2, z3⟩ := cur4 hc
  have HC := Lib.hid hc
  have hd : moment_digits.f 7 x = some ((digitsP x).1, (digitsP x).2) := digits_f 7 (by omega) x
  show Calls Tryd.prog 54 _ w fun e w' => e = .returned (.tuple #[.int .i64 (digitsP x).1, .bool ((digitsP x).2 && (k == 2 && (decide (x.size ≤ 2) && decide ((digitsP x).1 ≤ most))))]) ∧ _
  generalize (digitsP x).1 = D1 at *
  generalize (digitsP x).2 = D2 at *
  have HD := Lib.hid hd
  clear hc hd
  go_enter Tryd.func54, Tryd.ntmps54
  go_wp2_with (go_at_call 68; refine (moment_digits.calls 7 x D1 D2 _ HD.out).mono ?_; rintro e w1 ⟨rfl, ⟨nd, rfl⟩⟩)
  all_goals
    refine (nx_calls c t s (i, k, x) _ hs hi (by exact HC.out)).mono ?_
    rintro e w1 ⟨rfl, h1, h2⟩
    have H1 := Lib.hid h1
    have H2 := Lib.hid ((Turned.refl c w).drewN nd |>.trans h2)
    clear h1 h2 c0 c1 c2 c3 z1 z2 z3 HC
    go_wp2
    go_ret2
    exact ⟨ret_tup2 (by first | rfl | (simp [*]; done) | (simp [*]; omega)) (by first | rfl | (simp [*]; done) | (simp [*]; omega)), H1.out, H2.out⟩
def yearP (q : St) : Int × Bool :=
  (if q.2.2.size = 2 then (if (digitsP q.2.2).1 + 1900 < 1950 then (digitsP q.2.2).1 + 2000 else (digitsP q.2.2).1 + 1900) else if q.2.2.size = 3 then (digitsP q.2.2).1 + 1900 else (digitsP q.2.2).1,
   decide (q.2.2.size ≠ 1) && ((digitsP q.2.2).2 && q.2.1 == 2))
theorem digitsP_bound (s : ByteArray) : 0 ≤ (digitsP s).1 ∧ (digitsP s).1 < 10000 := by
  unfold digitsP
  split
  · rename_i h
    have := dval_bound _ h.2.2
    have h4 : (10 : Int) ^ s.data.toList.length ≤ 10 ^ 4 := by
      rw [toList_len]
      have h4 : s.size = 1 ∨ s.size = 2 ∨ s.size = 3 ∨ s.size = 4 := by omega
      rcases h4 with h | h | h | h <;> rw [h] <;> decide
    exact ⟨this.1, by have := this.2; omega⟩
  · exact ⟨by decide, by decide⟩
set_option maxHeartbeats 4000000 in
theorem year_calls (c t : Nat) (s : ByteArray) (q : St) (w : World) (hs : s.size ≤ 140737488351232) (hi : q.1 ≤ s.size) (hc : CurS c t s q w) :
    Calls Tryd.prog 56 #[.pointer (some ⟨c, 0, none⟩)] w fun e w' => e = .returned (.tuple #[.int .i64 (yearP q).1, .bool (yearP q).2]) ∧ CurS c t s (nx s q) w' ∧ Turned c w w' := by
  obtain ⟨i, k, x⟩ := q
  obtain ⟨c0, c1, c2, c3, z1, z2, z3⟩ := cur4 hc
  have HC := Lib.hid hc
  have hd : moment_digits.f 7 x = some ((digitsP x).1, (digitsP x).2) := digits_f 7 (by omega) x
  obtain ⟨hb0, hb1⟩ := digitsP_bound x
  have HNX := Lib.hid (fun w h => nx_calls c t s (i, k, x) w hs hi h)
  have hY : yearP (i, k, x) = (if x.size = 2 then (if (digitsP x).1 + 1900 < 1950 then (digitsP x).1 + 2000 else (digitsP x).1 + 1900) else if x.size = 3 then (digitsP x).1 + 1900 else (digitsP x).1,
   decide (x.size ≠ 1) && ((digitsP x).2 && k == 2)) := rfl
  generalize (digitsP x).1 = D1 at *
  generalize (digitsP x).2 = D2 at *
  generalize nx s (i, k, x) = q1 at *
  have HD := Lib.hid hd
  clear hc hd
  by_cases h1 : x.size = 1
  · have hsz := h1
    have g1 : ((x.size : Int) == 1) = true := by rw [beq_iff_eq]; omega
    clear h1
    cases D2 with
    | false =>
      have e : yearP (i, k, x) = (D1, false) := by rw [hY]; simp [hsz]
      rw [e]
      clear e hY hsz
      go_enter Tryd.func56, Tryd.ntmps56
      go_wp2_with (go_at_call 68; refine (moment_digits.calls 7 x D1 false _ HD.out).mono ?_; rintro e w1 ⟨rfl, ⟨nd, rfl⟩⟩)
      refine (HNX.out _ (by exact HC.out)).mono ?_
      rintro e w1 ⟨rfl, h1_, h2_⟩
      have H1 := Lib.hid h1_
      have H2 := Lib.hid ((Turned.refl c w).drewN nd |>.trans h2_)
      clear h1_ h2_ c0 c1 c2 c3 z1 z2 z3 HC
      go_wp2
      go_ret2
      exact ⟨ret_tup2 (by omega) rfl, H1.out, H2.out⟩
    | true =>
      by_cases hk : k = 2
      · have gk : (k == 2) = true := by rw [beq_iff_eq]; exact hk
        have e : yearP (i, k, x) = (D1, false) := by rw [hY]; simp [hsz, hk]
        rw [e]
        clear e hY hk hsz
        go_enter Tryd.func56, Tryd.ntmps56
        go_wp2_with (go_at_call 68; refine (moment_digits.calls 7 x D1 true _ HD.out).mono ?_; rintro e w1 ⟨rfl, ⟨nd, rfl⟩⟩)
        refine (HNX.out _ (by exact HC.out)).mono ?_
        rintro e w1 ⟨rfl, h1_, h2_⟩
        have H1 := Lib.hid h1_
        have H2 := Lib.hid ((Turned.refl c w).drewN nd |>.trans h2_)
        clear h1_ h2_ c0 c1 c2 c3 z1 z2 z3 HC
        go_wp2
        go_ret2
        exact ⟨ret_tup2 (by omega) rfl, H1.out, H2.out⟩
      · have gk : (k == 2) = false := by rw [beq_eq_false_iff_ne]; exact hk
        have e : yearP (i, k, x) = (D1, false) := by rw [hY]; simp [hsz, hk]
        rw [e]
        clear e hY hk hsz
        go_enter Tryd.func56, Tryd.ntmps56
        go_wp2_with (go_at_call 68; refine (moment_digits.calls 7 x D1 true _ HD.out).mono ?_; rintro e w1 ⟨rfl, ⟨nd, rfl⟩⟩)
        refine (HNX.out _ (by exact HC.out)).mono ?_
        rintro e w1 ⟨rfl, h1_, h2_⟩
        have H1 := Lib.hid h1_
        have H2 := Lib.hid ((Turned.refl c w).drewN nd |>.trans h2_)
        clear h1_ h2_ c0 c1 c2 c3 z1 z2 z3 HC
        go_wp2
        go_ret2
        exact ⟨ret_tup2 (by omega) rfl, H1.out, H2.out⟩
  · by_cases h2 : x.size = 2
    · have hsz := h2
      have g1 : ((x.size : Int) == 1) = false := by rw [beq_eq_false_iff_ne]; omega
      have g2 : ((x.size : Int) == 2) = true := by rw [beq_iff_eq]; omega
      clear h1 h2
      by_cases h1950 : D1 + 1900 < 1950
      · skip
        cases D2 with
        | false =>
          have e : yearP (i, k, x) = (D1 + 2000, false) := by rw [hY]; simp [hsz, h1950]
          rw [e]
          clear e hY hsz
          go_enter Tryd.func56, Tryd.ntmps56
          go_wp2_with (go_at_call 68; refine (moment_digits.calls 7 x D1 false _ HD.out).mono ?_; rintro e w1 ⟨rfl, ⟨nd, rfl⟩⟩)
          refine (HNX.out _ (by exact HC.out)).mono ?_
          rintro e w1 ⟨rfl, h1_, h2_⟩
          have H1 := Lib.hid h1_
          have H2 := Lib.hid ((Turned.refl c w).drewN nd |>.trans h2_)
          clear h1_ h2_ c0 c1 c2 c3 z1 z2 z3 HC
          go_wp2
          go_ret2
          exact ⟨ret_tup2 (by omega) rfl, H1.out, H2.out⟩
        | true =>
          by_cases hk : k = 2
          · have gk : (k == 2) = true := by rw [beq_iff_eq]; exact hk
            have e : yearP (i, k, x) = (D1 + 2000, true) := by rw [hY]; simp [hsz, hk, h1950]
            rw [e]
            clear e hY hk hsz
            go_enter Tryd.func56, Tryd.ntmps56
            go_wp2_with (go_at_call 68; refine (moment_digits.calls 7 x D1 true _ HD.out).mono ?_; rintro e w1 ⟨rfl, ⟨nd, rfl⟩⟩)
            refine (HNX.out _ (by exact HC.out)).mono ?_
            rintro e w1 ⟨rfl, h1_, h2_⟩
            have H1 := Lib.hid h1_
            have H2 := Lib.hid ((Turned.refl c w).drewN nd |>.trans h2_)
            clear h1_ h2_ c0 c1 c2 c3 z1 z2 z3 HC
            go_wp2
            go_ret2
            exact ⟨ret_tup2 (by omega) rfl, H1.out, H2.out⟩
          · have gk : (k == 2) = false := by rw [beq_eq_false_iff_ne]; exact hk
            have e : yearP (i, k, x) = (D1 + 2000, false) := by rw [hY]; simp [hsz, hk, h1950]
            rw [e]
            clear e hY hk hsz
            go_enter Tryd.func56, Tryd.ntmps56
            go_wp2_with (go_at_call 68; refine (moment_digits.calls 7 x D1 true _ HD.out).mono ?_; rintro e w1 ⟨rfl, ⟨nd, rfl⟩⟩)
            refine (HNX.out _ (by exact HC.out)).mono ?_
            rintro e w1 ⟨rfl, h1_, h2_⟩
            have H1 := Lib.hid h1_
            have H2 := Lib.hid ((Turned.refl c w).drewN nd |>.trans h2_)
            clear h1_ h2_ c0 c1 c2 c3 z1 z2 z3 HC
            go_wp2
            go_ret2
            exact ⟨ret_tup2 (by omega) rfl, H1.out, H2.out⟩
      · skip
        cases D2 with
        | false =>
          have e : yearP (i, k, x) = (D1 + 1900, false) := by rw [hY]; simp [hsz, h1950]
          rw [e]
          clear e hY hsz
          go_enter Tryd.func56, Tryd.ntmps56
          go_wp2_with (go_at_call 68; refine (moment_digits.calls 7 x D1 false _ HD.out).mono ?_; rintro e w1 ⟨rfl, ⟨nd, rfl⟩⟩)
          refine (HNX.out _ (by exact HC.out)).mono ?_
          rintro e w1 ⟨rfl, h1_, h2_⟩
          have H1 := Lib.hid h1_
          have H2 := Lib.hid ((Turned.refl c w).drewN nd |>.trans h2_)
          clear h1_ h2_ c0 c1 c2 c3 z1 z2 z3 HC
          go_wp2
          go_ret2
          exact ⟨ret_tup2 (by omega) rfl, H1.out, H2.out⟩
        | true =>
          by_cases hk : k = 2
          · have gk : (k == 2) = true := by rw [beq_iff_eq]; exact hk
            have e : yearP (i, k, x) = (D1 + 1900, true) := by rw [hY]; simp [hsz, hk, h1950]
            rw [e]
            clear e hY hk hsz
            go_enter Tryd.func56, Tryd.ntmps56
            go_wp2_with (go_at_call 68; refine (moment_digits.calls 7 x D1 true _ HD.out).mono ?_; rintro e w1 ⟨rfl, ⟨nd, rfl⟩⟩)
            refine (HNX.out _ (by exact HC.out)).mono ?_
            rintro e w1 ⟨rfl, h1_, h2_⟩
            have H1 := Lib.hid h1_
            have H2 := Lib.hid ((Turned.refl c w).drewN nd |>.trans h2_)
            clear h1_ h2_ c0 c1 c2 c3 z1 z2 z3 HC
            go_wp2
            go_ret2
            exact ⟨ret_tup2 (by omega) rfl, H1.out, H2.out⟩
          · have gk : (k == 2) = false := by rw [beq_eq_false_iff_ne]; exact hk
            have e : yearP (i, k, x) = (D1 + 1900, false) := by rw [hY]; simp [hsz, hk, h1950]
            rw [e]
            clear e hY hk hsz
            go_enter Tryd.func56, Tryd.ntmps56
            go_wp2_with (go_at_call 68; refine (moment_digits.calls 7 x D1 true _ HD.out).mono ?_; rintro e w1 ⟨rfl, ⟨nd, rfl⟩⟩)
            refine (HNX.out _ (by exact HC.out)).mono ?_
            rintro e w1 ⟨rfl, h1_, h2_⟩
            have H1 := Lib.hid h1_
            have H2 := Lib.hid ((Turned.refl c w).drewN nd |>.trans h2_)
            clear h1_ h2_ c0 c1 c2 c3 z1 z2 z3 HC
            go_wp2
            go_ret2
            exact ⟨ret_tup2 (by omega) rfl, H1.out, H2.out⟩
    · by_cases h3 : x.size = 3
      · have hsz := h3
        have g1 : ((x.size : Int) == 1) = false := by rw [beq_eq_false_iff_ne]; omega
        have g2 : ((x.size : Int) == 2) = false := by rw [beq_eq_false_iff_ne]; omega
        have g3 : ((x.size : Int) == 3) = true := by rw [beq_iff_eq]; omega
        clear h1 h2 h3
        cases D2 with
        | false =>
          have e : yearP (i, k, x) = (D1 + 1900, false) := by rw [hY]; simp [hsz]
          rw [e]
          clear e hY hsz
          go_enter Tryd.func56, Tryd.ntmps56
          go_wp2_with (go_at_call 68; refine (moment_digits.calls 7 x D1 false _ HD.out).mono ?_; rintro e w1 ⟨rfl, ⟨nd, rfl⟩⟩)
          refine (HNX.out _ (by exact HC.out)).mono ?_
          rintro e w1 ⟨rfl, h1_, h2_⟩
          have H1 := Lib.hid h1_
          have H2 := Lib.hid ((Turned.refl c w).drewN nd |>.trans h2_)
          clear h1_ h2_ c0 c1 c2 c3 z1 z2 z3 HC
          go_wp2
          go_ret2
          exact ⟨ret_tup2 (by omega) rfl, H1.out, H2.out⟩
        | true =>
          by_cases hk : k = 2
          · have gk : (k == 2) = true := by rw [beq_iff_eq]; exact hk
            have e : yearP (i, k, x) = (D1 + 1900, true) := by rw [hY]; simp [hsz, hk]
            rw [e]
            clear e hY hk hsz
            go_enter Tryd.func56, Tryd.ntmps56
            go_wp2_with (go_at_call 68; refine (moment_digits.calls 7 x D1 true _ HD.out).mono ?_; rintro e w1 ⟨rfl, ⟨nd, rfl⟩⟩)
            refine (HNX.out _ (by exact HC.out)).mono ?_
            rintro e w1 ⟨rfl, h1_, h2_⟩
            have H1 := Lib.hid h1_
            have H2 := Lib.hid ((Turned.refl c w).drewN nd |>.trans h2_)
            clear h1_ h2_ c0 c1 c2 c3 z1 z2 z3 HC
            go_wp2
            go_ret2
            exact ⟨ret_tup2 (by omega) rfl, H1.out, H2.out⟩
          · have gk : (k == 2) = false := by rw [beq_eq_false_iff_ne]; exact hk
            have e : yearP (i, k, x) = (D1 + 1900, false) := by rw [hY]; simp [hsz, hk]
            rw [e]
            clear e hY hk hsz
            go_enter Tryd.func56, Tryd.ntmps56
            go_wp2_with (go_at_call 68; refine (moment_digits.calls 7 x D1 true _ HD.out).mono ?_; rintro e w1 ⟨rfl, ⟨nd, rfl⟩⟩)
            refine (HNX.out _ (by exact HC.out)).mono ?_
            rintro e w1 ⟨rfl, h1_, h2_⟩
            have H1 := Lib.hid h1_
            have H2 := Lib.hid ((Turned.refl c w).drewN nd |>.trans h2_)
            clear h1_ h2_ c0 c1 c2 c3 z1 z2 z3 HC
            go_wp2
            go_ret2
            exact ⟨ret_tup2 (by omega) rfl, H1.out, H2.out⟩
      · skip
        have g1 : ((x.size : Int) == 1) = false := by rw [beq_eq_false_iff_ne]; omega
        have g2 : ((x.size : Int) == 2) = false := by rw [beq_eq_false_iff_ne]; omega
        have g3 : ((x.size : Int) == 3) = false := by rw [beq_eq_false_iff_ne]; omega
        cases D2 with
        | false =>
          have e : yearP (i, k, x) = (D1, false) := by rw [hY]; simp [h1, h2, h3]
          rw [e]
          clear e hY h1 h2 h3
          go_enter Tryd.func56, Tryd.ntmps56
          go_wp2_with (go_at_call 68; refine (moment_digits.calls 7 x D1 false _ HD.out).mono ?_; rintro e w1 ⟨rfl, ⟨nd, rfl⟩⟩)
          refine (HNX.out _ (by exact HC.out)).mono ?_
          rintro e w1 ⟨rfl, h1_, h2_⟩
          have H1 := Lib.hid h1_
          have H2 := Lib.hid ((Turned.refl c w).drewN nd |>.trans h2_)
          clear h1_ h2_ c0 c1 c2 c3 z1 z2 z3 HC
          go_wp2
          go_ret2
          exact ⟨ret_tup2 (by omega) rfl, H1.out, H2.out⟩
        | true =>
          by_cases hk : k = 2
          · have gk : (k == 2) = true := by rw [beq_iff_eq]; exact hk
            have e : yearP (i, k, x) = (D1, true) := by rw [hY]; simp [h1, h2, h3, hk]
            rw [e]
            clear e hY hk h1 h2 h3
            go_enter Tryd.func56, Tryd.ntmps56
            go_wp2_with (go_at_call 68; refine (moment_digits.calls 7 x D1 true _ HD.out).mono ?_; rintro e w1 ⟨rfl, ⟨nd, rfl⟩⟩)
            refine (HNX.out _ (by exact HC.out)).mono ?_
            rintro e w1 ⟨rfl, h1_, h2_⟩
            have H1 := Lib.hid h1_
            have H2 := Lib.hid ((Turned.refl c w).drewN nd |>.trans h2_)
            clear h1_ h2_ c0 c1 c2 c3 z1 z2 z3 HC
            go_wp2
            go_ret2
            exact ⟨ret_tup2 (by omega) rfl, H1.out, H2.out⟩
          · have gk : (k == 2) = false := by rw [beq_eq_false_iff_ne]; exact hk
            have e : yearP (i, k, x) = (D1, false) := by rw [hY]; simp [h1, h2, h3, hk]
            rw [e]
            clear e hY hk h1 h2 h3
            go_enter Tryd.func56, Tryd.ntmps56
            go_wp2_with (go_at_call 68; refine (moment_digits.calls 7 x D1 true _ HD.out).mono ?_; rintro e w1 ⟨rfl, ⟨nd, rfl⟩⟩)
            refine (HNX.out _ (by exact HC.out)).mono ?_
            rintro e w1 ⟨rfl, h1_, h2_⟩
            have H1 := Lib.hid h1_
            have H2 := Lib.hid ((Turned.refl c w).drewN nd |>.trans h2_)
            clear h1_ h2_ c0 c1 c2 c3 z1 z2 z3 HC
            go_wp2
            go_ret2
            exact ⟨ret_tup2 (by omega) rfl, H1.out, H2.out⟩
def secondP (s : ByteArray) (q : St) : Int × Bool := if q.2.1 = 5 then (if 59 < (shortP 60 (nx s q)).1 then 59 else (shortP 60 (nx s q)).1, (shortP 60 (nx s q)).2) else (0, true)
def secondS (s : ByteArray) (q : St) : St := if q.2.1 = 5 then nx s (nx s q) else q
set_option maxHeartbeats 1000000 in
theorem second_calls (c t : Nat) (s : ByteArray) (q : St) (w : World) (hs : s.size ≤ 140737488351232) (hi : q.1 ≤ s.size) (hc : CurS c t s q w) :
    Calls Tryd.prog 58 #[.pointer (some ⟨c, 0, none⟩)] w fun e w' => e = .returned (.tuple #[.int .i64 (secondP s q).1, .bool (secondP s q).2]) ∧ CurS c t s (secondS s q) w' ∧ Turned c w w' := by
  obtain ⟨i, k, x⟩ := q
  obtain ⟨c0, c1, c2, c3, z1, z2, z3⟩ := cur4 hc
  have HC := Lib.hid hc
  clear hc
  by_cases hk : k = 5
  · have e1 : secondP s (i, k, x) = (if 59 < (shortP 60 (nx s (i, k, x))).1 then 59 else (shortP 60 (nx s (i, k, x))).1, (shortP 60 (nx s (i, k, x))).2) := if_pos hk
    have e2 : secondS s (i, k, x) = nx s (nx s (i, k, x)) := if_pos hk
    rw [e1, e2]
    have hg : (k != 5) = false := by rw [bne_eq_false_iff_eq]; exact hk
    have hi2 := nx_le s (i, k, x) hi
    have HNX := Lib.hid (nx_calls c t s (i, k, x) w hs hi HC.out)
    have hsh := fun w h => short_calls c t s (nx s (i, k, x)) 60 w hs hi2 h
    dsimp only
    generalize nx s (i, k, x) = q1 at *
    obtain ⟨S1, S2, hS⟩ : ∃ S1 S2, shortP 60 q1 = (S1, S2) := ⟨_, _, rfl⟩
    rw [hS] at hsh ⊢
    dsimp only at hsh ⊢
    have HSH := Lib.hid hsh
    clear hsh e1 e2 hk hS
    go_enter Tryd.func58, Tryd.ntmps58
    go_wp2_with fail
    refine HNX.out.mono ?_
    rintro e w1 ⟨rfl, h1, h2⟩
    have H1 := Lib.hid h1
    have H2 := Lib.hid h2
    clear h1 h2 c0 c1 c2 c3 z1 z2 z3 HC
    go_wp2_with fail
    refine (HSH.out _ H1.out).mono ?_
    rintro e w2 ⟨rfl, h1, h2⟩
    have H3 := Lib.hid h1
    have H4 := Lib.hid (H2.out.trans h2)
    clear h1 h2
    go_wp2
    all_goals
      go_ret2
      exact ⟨ret_tup2 (by first | rfl | (simp [*]; done) | (simp [*]; omega)) rfl, H3.out, H4.out⟩
  · have e1 : secondP s (i, k, x) = (0, true) := if_neg hk
    have e2 : secondS s (i, k, x) = (i, k, x) := if_neg hk
    rw [e1, e2]
    have hg : (k != 5) = true := by rw [bne_iff_ne]; exact hk
    clear e1 e2
    go_enter Tryd.func58, Tryd.ntmps58
    go_wp2
    go_ret2
    exact ⟨rfl, HC.out, Turned.refl _ _⟩
end Go.Proofs.YtjlchnmpebdggaaDoor.Mo
end
section
namespace Go.Proofs.YtjlchnmpebdggaaDoor.Mo
open Go.RowKit Go.Proofs.YtjlchnmpebdggaaDoorW.PrintWords
def up (c : UInt8) : UInt8 := if 97 ≤ c ∧ c ≤ 122 then c - 32 else c
def upTo (l : List UInt8) (k : Nat) : List UInt8 := (l.take k).map up ++ l.drop k
def upperP (s : ByteArray) : ByteArray := ⟨(s.data.toList.map up).toArray⟩
theorem upTo_get (l : List UInt8) (k j : Nat) : (upTo l k)[j]? = if j < k then l[j]?.map up else l[j]? := by
  unfold upTo
  by_cases h : j < k
  · rw [if_pos h]
    by_cases hj : j < l.length
    · rw [List.getElem?_append_left (by simp; omega), List.getElem?_map, List.getElem?_take, if_pos h]
    · rw [List.getElem?_append_right (by simp; omega), List.getElem?_drop, List.getElem?_eq_none (by simp; omega), List.getElem?_eq_none (by omega)]; rfl
  · rw [if_neg h]
    by_cases hj : k ≤ l.length
    · rw [List.getElem?_append_right (by simp; omega), List.getElem?_drop]
      congr 1
      simp
      omega
    · rw [List.getElem?_eq_none (by simp; omega), List.getElem?_eq_none (by omega)]
theorem upTo_all (l : List UInt8) : upTo l l.length = l.map up := by simp [upTo]
theorem up_small (c : UInt8) (h : 97 ≤ c.toNat) (h2 : c.toNat ≤ 122) : ((up c).toNat : Int) = (c.toNat : Int) - 32 := by
  have e : (97 : UInt8) ≤ c ∧ c ≤ 122 := ⟨UInt8.le_iff_toNat_le.2 h, UInt8.le_iff_toNat_le.2 h2⟩
  unfold up
  rw [if_pos e, UInt8.toNat_sub_of_le _ _ (UInt8.le_iff_toNat_le.2 (by show 32 ≤ _; omega))]
  show ((c.toNat - 32 : Nat) : Int) = _
  omega
theorem up_else (c : UInt8) (h : ¬ (97 ≤ c.toNat ∧ c.toNat ≤ 122)) : up c = c := by
  unfold up
  rw [if_neg]
  rintro ⟨h1, h2⟩
  exact h ⟨UInt8.le_iff_toNat_le.1 h1, UInt8.le_iff_toNat_le.1 h2⟩
theorem upperP_size (s : ByteArray) : (upperP s).size = s.size := by show (s.data.toList.map up).toArray.size = _; simp
set_option maxHeartbeats 1000000 in
theorem upper_calls (a : ByteArray) (w : World) (ha : a.size ≤ 140737488351232) :
    Calls Tryd.prog 94 #[.string a] w fun e w' => e = .returned (.string (upperP a)) ∧ Below w.heap.size w w' := by
  have hcv := fun w => run_bytes_of_string (P := Tryd.prog) w 9 58 5 a Tryd.underlying9 Tryd.underlying58 Tryd.underlying5
  go_enter Tryd.func94, Tryd.ntmps94
  go_wp2_with fail
  have cell0 : ∀ (j : Nat) (b : UInt8), a.data.toList[j]? = some b → (w.alloc (Obj.cells (bytesRow a (grownCap w a.size 0 5)) 5 ((bytesRow a (grownCap w a.size 0 5)).size, (bytesRow a (grownCap w a.size 0 5)).size + 1))).drew.cell? ⟨w.heap.size, j, none⟩ = some (.int .u8 b.toNat) := fun j b hj => by
    have hlt := (List.getElem?_eq_some_iff.1 hj).1
    rw [List.getElem?_eq_getElem hlt] at hj
    have hj := Option.some.inj hj
    refine (World.cell?_alloc_mark w _ _ _ j).trans ?_
    rw [bytesRow_at a _ j (by simpa using hlt)]
    rw [← hj]
    rfl
  have frz0 : ∀ j : Nat, j < a.size → (w.alloc (Obj.cells (bytesRow a (grownCap w a.size 0 5)) 5 ((bytesRow a (grownCap w a.size 0 5)).size, (bytesRow a (grownCap w a.size 0 5)).size + 1))).drew.frozen? ⟨w.heap.size, j, none⟩ = false := fun j hj => by
    refine (World.frozen?_alloc_mark w _ _ _ _ j).trans ?_
    have : (bytesRow a (grownCap w a.size 0 5)).size ≥ a.size := by unfold bytesRow; simp
    rw [decide_eq_false (by omega), Bool.false_and]
  have bel0 : Below w.heap.size w (w.alloc (Obj.cells (bytesRow a (grownCap w a.size 0 5)) 5 ((bytesRow a (grownCap w a.size 0 5)).size, (bytesRow a (grownCap w a.size 0 5)).size + 1))).drew := ((Below.refl _ w).alloc (Nat.le_refl _) _).drew
  generalize (w.alloc (Obj.cells (bytesRow a (grownCap w a.size 0 5)) 5 ((bytesRow a (grownCap w a.size 0 5)).size, (bytesRow a (grownCap w a.size 0 5)).size + 1))).drew = w0 at *
  generalize hcap : grownCap w a.size 0 5 = cap at *
  clear hcv hcap
  go_loopw [10] (fun n wr => ∃ k : Nat, k ≤ a.size ∧ n = .int .i64 k ∧ (∀ (j : Nat) (b : UInt8), (upTo a.data.toList k)[j]? = some b → wr.cell? ⟨w.heap.size, j, none⟩ = some (.int .u8 b.toNat)) ∧
      (∀ j : Nat, j < a.size → wr.frozen? ⟨w.heap.size, j, none⟩ = false) ∧ Below w.heap.size w wr) (fun n _ => a.size - (intOf n).toNat)
  case atStart => exact ⟨0, by omega, rfl, fun j b hj => cell0 j b (by simpa [upTo] using hj), frz0, bel0⟩
  case round =>
    obtain ⟨k, hk, rfl, hc, hf, hB⟩ := hrel
    have HC := Lib.hid hc
    have HF := Lib.hid hf
    have HB := Lib.hid hB
    clear cell0 frz0 bel0 hc hf hB
    by_cases hlt : k < a.size
    · have hlen : k < a.data.toList.length := by simpa using hlt
      obtain ⟨b, hb⟩ : ∃ b, a.data.toList[k]? = some b := ⟨_, List.getElem?_eq_getElem hlen⟩
      have hget : (upTo a.data.toList k)[k]? = some b := by rw [upTo_get, if_neg (by omega), hb]
      have hc := HC.out k b hget
      have hf := HF.out k hlt
      have HBB := Lib.hid hb
      have hb8 := b.toNat_lt
      clear hget hb
      by_cases hs : 97 ≤ b.toNat ∧ b.toNat ≤ 122
      · obtain ⟨h1, h2⟩ := hs
        have hup := up_small b h1 h2
        have d1 : decide ((97 : Int) ≤ (b.toNat : Int)) = true := decide_eq_true (by omega)
        have d2 : decide ((b.toNat : Int) ≤ 122) = true := decide_eq_true (by omega)
        go_wp2
        go_roundw
        case rel =>
          refine ⟨k + 1, by omega, by go_num, ?_, ?_, (HB.out.setCell (by simp) _)⟩
          · intro j b' hj
            rw [upTo_get] at hj
            by_cases q : k = j
            · subst q
              rw [if_pos (by omega), HBB.out] at hj
              obtain rfl := Option.some.inj hj
              rw [hup]
              exact World.cell?_setCell_same _ _ _ hc
            · refine (World.cell?_setCell_other _ _ _ _ (fun e => q (congrArg Addr.off e))).trans (HC.out j b' ?_)
              rw [upTo_get]
              by_cases q2 : j < k
              · rw [if_pos (by omega)] at hj; rw [if_pos q2]; exact hj
              · rw [if_neg (by omega)] at hj; rw [if_neg q2]; exact hj
          · intro j hj
            rw [World.frozen?_setCell]
            exact HF.out j hj
        case measure => simp [intOf]; omega
      · have hup := up_else b hs
        have rel : ∃ k_1 : Nat, k_1 ≤ a.size ∧ Value.int .i64 ((k : Int) + 1) = .int .i64 k_1 ∧ (∀ (j : Nat) (b : UInt8), (upTo a.data.toList k_1)[j]? = some b → wr.cell? ⟨w.heap.size, j, none⟩ = some (.int .u8 b.toNat)) ∧
            (∀ j : Nat, j < a.size → wr.frozen? ⟨w.heap.size, j, none⟩ = false) ∧ Below w.heap.size w wr := by
          refine ⟨k + 1, by omega, by go_num, ?_, HF.out, HB.out⟩
          intro j b' hj
          refine HC.out j b' ?_
          rw [upTo_get] at hj ⊢
          by_cases q : k = j
          · subst q
            rw [if_pos (by omega), HBB.out] at hj
            rw [if_neg (by omega), HBB.out]
            rw [← hj]
            simp [hup]
          · by_cases q2 : j < k
            · rw [if_pos (by omega)] at hj; rw [if_pos q2]; exact hj
            · rw [if_neg (by omega)] at hj; rw [if_neg q2]; exact hj
        have REL := Lib.hid rel
        clear rel
        by_cases h1 : 97 ≤ b.toNat
        · have d1 : decide ((97 : Int) ≤ (b.toNat : Int)) = true := decide_eq_true (by omega)
          have d2 : decide ((b.toNat : Int) ≤ 122) = false := decide_eq_false (by omega)
          go_wp2
          go_roundw
          case rel => exact REL.out
          case measure => simp [intOf]; omega
        · have d1 : decide ((97 : Int) ≤ (b.toNat : Int)) = false := decide_eq_false (by omega)
          go_wp2
          go_roundw
          case rel => exact REL.out
          case measure => simp [intOf]; omega
    · obtain rfl : k = a.size := by omega
      have hal : a.data.toList.length = a.size := by simp
      have hback : (convert 58 9 (.slice (some ⟨w.heap.size, 0, none⟩) a.size cap)).run Tryd.prog wr = .ok (.string (upperP a)) wr := by
        have HL : a.size = (a.data.toList.map up).length := by rw [List.length_map, hal]
        rw [HL]
        exact run_convert_bytes_back (P := Tryd.prog) wr 58 9 5 ⟨w.heap.size, 0, none⟩ cap (a.data.toList.map up) Tryd.underlying58 Tryd.underlying5 Tryd.underlying9 (fun j hj => by
          rw [add_plain]
          refine HC.out j _ ?_
          rw [← hal, upTo_all]
          exact List.getElem?_eq_getElem hj)
      go_wp2
      go_ret
      exact ⟨rfl, HB.out⟩
end Go.Proofs.YtjlchnmpebdggaaDoor.Mo
end
section
namespace Go.Proofs.YtjlchnmpebdggaaDoor.Mo
open Go.RowKit Go.Proofs.YtjlchnmpebdggaaDoorW.PrintWords
def placeP (t : ByteArray) : List ByteArray → Nat → Int
  | [], _ => -1
  | x :: r, k => if (upperP x).toList = (upperP t).toList then k else placeP t r (k + 1)
set_option maxHeartbeats 1000000 in
theorem place_calls (l : List ByteArray) (b cap : Nat) (s : ByteArray) (w : World) (hs : s.size ≤ 140737488351232) (hl : l.length ≤ 1000) (hx : ∀ x ∈ l, x.size ≤ 1000)
    (hc : ∀ j x, l[j]? = some x → w.cell? ⟨b, j, none⟩ = some (.string x)) (hb : b < w.heap.size) :
    Calls Tryd.prog 92 #[.slice (some ⟨b, 0, none⟩) l.length cap, .string s] w fun e w' => e = .returned (.int .i64 (placeP s l 0)) ∧ Below w.heap.size w w' := by
  have HX := Lib.hid hx
  have HC := Lib.hid hc
  clear hx hc
  go_enter Tryd.func92, Tryd.ntmps92
  go_wp2_with fail
  refine (upper_calls s _ hs).mono ?_
  rintro e w1 ⟨rfl, hB1⟩
  go_wp2_with fail
  go_loopw [11] (fun n wr => ∃ k : Nat, k ≤ l.length ∧ n = .int .i64 k ∧ placeP s l 0 = placeP s (l.drop k) k ∧ Below w.heap.size w wr) (fun n _ => l.length - (intOf n).toNat)
  case atStart => exact ⟨0, by omega, rfl, rfl, hB1⟩
  case round =>
    obtain ⟨k, hk, rfl, hp, hB⟩ := hrel
    have HB := Lib.hid hB
    have HP := Lib.hid hp
    have hsz := hB.size
    clear hB hp hB1
    by_cases hlt : k < l.length
    · have hc : wr.cell? ⟨b, k, none⟩ = some (.string l[k]) := (HB.out.cell (p := ⟨b, k, none⟩) hb).trans (HC.out k _ (List.getElem?_eq_getElem hlt))
      have hxs := HX.out l[k] (List.getElem_mem hlt)
      have hd : Hid (l.drop k = l[k] :: l.drop (k + 1)) := by show l.drop k = _; exact List.drop_eq_getElem_cons hlt
      generalize l[k] = x at *
      have hq : Hid (placeP s l 0 = if (upperP x).toList = (upperP s).toList then (k : Int) else placeP s (l.drop (k + 1)) (k + 1)) := by
        show placeP s l 0 = _; rw [HP.out, hd.out]; rfl
      by_cases he : (upperP x).toList = (upperP s).toList
      · have HE := Lib.hid he
        have hz : ((upperP x).toList == (upperP s).toList) = true := beq_iff_eq.2 he
        clear he
        go_wp2_with (go_at_call 94; refine (upper_calls _ _ (by omega)).mono ?_; rintro e w2 ⟨rfl, hB2⟩)
        go_ret
        exact ⟨by rw [hq.out, if_pos HE.out]; rfl, HB.out.trans (hB2.mono hsz)⟩
      · have HE := Lib.hid he
        have hz : ((upperP x).toList == (upperP s).toList) = false := beq_eq_false_iff_ne.2 he
        clear he
        go_wp2_with (go_at_call 94; refine (upper_calls _ _ (by omega)).mono ?_; rintro e w2 ⟨rfl, hB2⟩)
        go_roundw
        case rel => exact ⟨k + 1, by omega, by go_num, by rw [hq.out, if_neg HE.out], HB.out.trans (hB2.mono hsz)⟩
        case measure => simp [intOf]; omega
    · obtain rfl : k = l.length := by omega
      go_wp2
      go_ret
      exact ⟨by rw [HP.out, List.drop_length]; rfl, HB.out⟩
end Go.Proofs.YtjlchnmpebdggaaDoor.Mo
end
section
namespace Go.Proofs.YtjlchnmpebdggaaDoor.Mo
open Go.RowKit Go.Proofs.YtjlchnmpebdggaaDoorW.PrintWords
def dayP (d : Int) (s : ByteArray) : Int × Int × Int × Bool :=
  if s.size = 9 ∧ bt s 0 = 45 ∧ bt s 4 = 45 then
    ((digitsP (s.extract 5 9)).1, placeP (s.extract 1 4) monthL 0 + 1, d, (digitsP (s.extract 5 9)).2 && decide (0 ≤ placeP (s.extract 1 4) monthL 0))
  else (0, 0, 0, false)
def moment_day.f (d : Int) (s : ByteArray) : Option (Int × Int × Int × Int × Int × Int × Int × Bool) :=
  some ((dayP d s).1, (dayP d s).2.1, (dayP d s).2.2.1, 0, 0, 0, 0, (dayP d s).2.2.2)
theorem placeP_range (t : ByteArray) : ∀ (l : List ByteArray) (k : Nat), -1 ≤ placeP t l k ∧ placeP t l k < k + l.length
  | [], k => by unfold placeP; simp; omega
  | x :: r, k => by
    unfold placeP
    have := placeP_range t r (k + 1)
    rw [List.length_cons]
    split <;> omega
set_option maxHeartbeats 1000000 in
set_option maxRecDepth 100000 in
theorem day_calls (d : Int) (s : ByteArray) (w : World) :
    Calls Tryd.prog 69 #[.int .i64 d, .string s] w fun e w' => e = .returned (.tuple #[.agg #[.int .i64 (dayP d s).1, .int .i64 (dayP d s).2.1, .int .i64 (dayP d s).2.2.1, .int .i64 0, .int .i64 0, .int .i64 0, .int .i64 0], .bool (dayP d s).2.2.2]) ∧ Below w.heap.size w w' := by
  by_cases hs : s.size = 9 ∧ bt s 0 = 45 ∧ bt s 4 = 45
  · obtain ⟨⟨D1, D2⟩, hD⟩ : ∃ D, digitsP (s.extract 5 9) = D := ⟨_, rfl⟩
    obtain ⟨P, hP⟩ : ∃ P, placeP (s.extract 1 4) monthL 0 = P := ⟨_, rfl⟩
    have hp : dayP d s = (D1, P + 1, d, D2 && decide (0 ≤ P)) := by unfold dayP; rw [if_pos hs, hD, hP]
    have hr := placeP_range (s.extract 1 4) monthL 0
    rw [hP] at hr
    rw [hp]
    dsimp only
    obtain ⟨h9, h0, h4⟩ := hs
    have hb0 : 0 < s.size := by omega
    have hb4 : 4 < s.size := by omega
    have e0 : ((s[0]'hb0).toNat : Int) = 45 := by rw [← h0]; exact bt_at s 0 (by simp; omega)
    have e4 : ((s[4]'hb4).toNat : Int) = 45 := by rw [← h4]; exact bt_at s 4 (by simp; omega)
    have g9 : ((s.size : Int) != 9) = false := by rw [bne_eq_false_iff_eq]; omega
    have hx1 : (s.extract 1 4).size = 3 := by rw [ByteArray.size_extract]; omega
    have hdig : moment_digits.f 7 (s.extract 5 9) = some (D1, D2) := by rw [digits_f 7 (by omega), hD]
    have hr0 : -1 ≤ P := hr.1
    have hr1 : P < 12 := hr.2
    have hse : s.extract 5 s.size = s.extract 5 9 := by rw [h9]
    have HP := Lib.hid hP
    have HD := Lib.hid hdig
    have HX := Lib.hid hx1
    have hP1 : wrap64 (P + 1) = P + 1 := IntWalk.wrap64_in _ ⟨by omega, by omega⟩
    have HSE := Lib.hid hse
    clear hP hD hp hr h0 h4 hdig hx1 hse
    have hb9 : 9 ≤ s.size := by omega
    have hb9' : s.size ≤ 9 := by omega
    have H9 := Lib.hid h9
    clear h9
    have hsl : ∀ w', (Instr.slice 9 (.string s) (some (.int .i64 1)) (some (.int .i64 4)) none).run Tryd.prog w' = .ok (.string (s.extract 1 4)) w' := fun w' => by
      rw [run_slice_string (P := Tryd.prog) w' 9 s .i64 .i64 1 4 Tryd.underlying9 (by omega) (by omega) (by omega)]; rfl
    generalize s.extract 1 4 = T at *
    go_enter Tryd.func69, Tryd.ntmps69
    go_wp2_with fail
    refine (months_calls _).mono ?_
    rintro e w1 ⟨rfl, hb1⟩
    go_wp2_with fail
    have hrow := heap_alloc_new w1 (.cells (monthL.map Value.string).toArray 71)
    have hbel : Below w.heap.size w (w1.alloc (.cells (monthL.map Value.string).toArray 71)) := below_alloc (below_step (below_alloc (Below.refl _ w) _) hb1) _
    obtain ⟨g, hg⟩ : ∃ g, w1.heap.size = g := ⟨_, rfl⟩
    have hbox : (w1.alloc (.cells (monthL.map Value.string).toArray 71)).heap[w.heap.size]? = some (.cells #[.int .i64 0, .int .i64 0, .int .i64 0, .int .i64 0, .int .i64 0, .int .i64 0, .int .i64 0] 23 (0, 0)) := by
      have := hb1.size
      rw [Below.heap_alloc _ _ _ (by simp at this; omega), hb1.block _ (by simp)]; exact heap_alloc_new _ _
    obtain ⟨w2, hw2⟩ : ∃ w2, w1.alloc (.cells (monthL.map Value.string).toArray 71) = w2 := ⟨_, rfl⟩
    rw [hw2] at hrow hbel hbox
    rw [hg] at hrow ⊢
    rw [show w1.alloc (Obj.cells #[Value.string ⟨#[74, 97, 110]⟩, .string ⟨#[70, 101, 98]⟩, .string ⟨#[77, 97, 114]⟩, .string ⟨#[65, 112, 114]⟩, .string ⟨#[77, 97, 121]⟩, .string ⟨#[74, 117, 110]⟩, .string ⟨#[74, 117, 108]⟩, .string ⟨#[65, 117, 103]⟩, .string ⟨#[83, 101, 112]⟩, .string ⟨#[79, 99, 116]⟩, .string ⟨#[78, 111, 118]⟩, .string ⟨#[68, 101, 99]⟩] 71) = w2 from hw2]
    have hglt : g < w2.heap.size := (Array.getElem?_eq_some_iff.1 hrow).1
    have HROW := Lib.hid hrow
    have HBEL := Lib.hid hbel
    have HP1 := Lib.hid hP1
    have hblt : w.heap.size < w2.heap.size := (Array.getElem?_eq_some_iff.1 hbox).1
    have HBOX := Lib.hid hbox
    clear hrow hbel hw2 hg hbox hb1 hP1
    go_region_with (go_at_call 92; refine (place_calls monthL g 12 T _ (by rw [HX.out]; omega) (by decide) month_small (fun j x hx => month_cells (by exact HROW.out) j x hx) (by exact hglt)).mono ?_; rw [HP.out]; rintro e w3 ⟨rfl, hb3⟩; have HB3 := Lib.hid (below_step (below_drew HBEL.out) hb3); have HBX := Lib.hid ((hb3.block w.heap.size (by exact hblt)).trans HBOX.out); clear hb3)
    obtain ⟨⟨c0, c1, c2, c3, c4, c5, c6⟩, fz⟩ := cells7 HBX.out
    have z0 := fz 0
    have z1 := fz 1
    have z2 := fz 2
    have z3 := fz 3
    have z4 := fz 4
    have z5 := fz 5
    have z6 := fz 6
    clear fz
    go_wp2_with (go_at_call 68; rw [HSE.out]; refine (moment_digits.calls 7 _ _ _ _ HD.out).mono ?_; rintro e w4 ⟨rfl, ⟨nd, rfl⟩⟩)
    · rename_i hD
      refine bodyPost_ret (results_ct rfl _ _ w.heap.size 23 #[.int .i64 D1, .int .i64 (P + 1), .int .i64 d, .int .i64 0, .int .i64 0, .int .i64 0, .int .i64 0] (0, 0) _ rfl (set7 (w := w3.drewN nd) HBX.out _ _ _ _ _ _ _).1 Tryd.underlying23 rfl (by kernel_rfl)) rfl ⟨?_, (set7 (w := w3.drewN nd) HBX.out _ _ _ _ _ _ _).2 _ _ (pw_below_drewN HB3.out nd) (Nat.le_refl _)⟩
      rw [hD, Bool.true_and]
      rfl
    · rename_i hD
      refine bodyPost_ret (results_ct rfl _ _ w.heap.size 23 #[.int .i64 D1, .int .i64 (P + 1), .int .i64 d, .int .i64 0, .int .i64 0, .int .i64 0, .int .i64 0] (0, 0) _ rfl (set7 (w := w3.drewN nd) HBX.out _ _ _ _ _ _ _).1 Tryd.underlying23 rfl (by kernel_rfl)) rfl ⟨?_, (set7 (w := w3.drewN nd) HBX.out _ _ _ _ _ _ _).2 _ _ (pw_below_drewN HB3.out nd) (Nat.le_refl _)⟩
      rw [Bool.eq_false_iff.2 hD, Bool.false_and]
      rfl
  · have hp : dayP d s = (0, 0, 0, false) := by unfold dayP; rw [if_neg hs]
    rw [hp]
    by_cases h9 : s.size = 9
    · have g9 : ((s.size : Int) != 9) = false := by rw [bne_eq_false_iff_eq]; omega
      by_cases h0 : bt s 0 = 45
      · have h4 : ¬ bt s 4 = 45 := fun h => hs ⟨h9, h0, h⟩
        have e0 : ((s[0]'(by omega)).toNat : Int) = 45 := by rw [← h0]; exact bt_at s 0 (by simp; omega)
        have e4 : (((s[4]'(by omega)).toNat : Int) != 45) = true := by rw [bne_iff_ne]; intro h; exact h4 (by rw [← h]; exact (bt_at s 4 (by simp; omega)).symm)
        clear hs hp h0 h4
        go_enter Tryd.func69, Tryd.ntmps69
        go_wp2
        exact bodyPost_ret (v := .tuple #[.agg #[.int .i64 0, .int .i64 0, .int .i64 0, .int .i64 0, .int .i64 0, .int .i64 0, .int .i64 0], .bool false]) (by simp [results, Tryd.results69, go_sem]) rfl ⟨rfl, (Below.refl _ _).alloc (Nat.le_refl _) _⟩
      · have e0 : (((s[0]'(by omega)).toNat : Int) != 45) = true := by rw [bne_iff_ne]; intro h; exact h0 (by rw [← h]; exact (bt_at s 0 (by simp; omega)).symm)
        clear hs hp h0
        go_enter Tryd.func69, Tryd.ntmps69
        go_wp2
        exact bodyPost_ret (v := .tuple #[.agg #[.int .i64 0, .int .i64 0, .int .i64 0, .int .i64 0, .int .i64 0, .int .i64 0, .int .i64 0], .bool false]) (by simp [results, Tryd.results69, go_sem]) rfl ⟨rfl, (Below.refl _ _).alloc (Nat.le_refl _) _⟩
    · have g2 : ((s.size : Int) != 9) = true := by rw [bne_iff_ne]; omega
      clear hs hp
      go_enter Tryd.func69, Tryd.ntmps69
      go_wp2
      exact bodyPost_ret (v := .tuple #[.agg #[.int .i64 0, .int .i64 0, .int .i64 0, .int .i64 0, .int .i64 0, .int .i64 0, .int .i64 0], .bool false]) (by simp [results, Tryd.results69, go_sem]) rfl ⟨rfl, (Below.refl _ _).alloc (Nat.le_refl _) _⟩
theorem moment_day.calls (a0 : Int) (a1 : ByteArray) (r1 r2 r3 r4 r5 r6 r7 : Int) (r8 : Bool) (w : World) (h : moment_day.f a0 a1 = some (r1, r2, r3, r4, r5, r6, r7, r8)) :
    Calls Tryd.prog 69 #[.int .i64 a0, .string a1] w fun e w' => e = .returned (.tuple #[.agg #[.int .i64 r1, .int .i64 r2, .int .i64 r3, .int .i64 r4, .int .i64 r5, .int .i64 r6, .int .i64 r7], .bool r8]) ∧ Below w.heap.size w w' := by
  unfold moment_day.f at h
  have h := Option.some.inj h
  simp only [Prod.mk.injEq] at h
  obtain ⟨rfl, rfl, rfl, rfl, rfl, rfl, rfl, rfl⟩ := h
  exact day_calls a0 a1 w
end Go.Proofs.YtjlchnmpebdggaaDoor.Mo
end
section
namespace Go.Proofs.YtjlchnmpebdggaaDoor.Mo
open Go.RowKit Go.Proofs.YtjlchnmpebdggaaDoorW.PrintWords
theorem nx_text (s : ByteArray) (q : St) : (nx s q).2.2.size ≤ s.size := by
  unfold nx nextP
  simp only
  split
  · show 0 ≤ _; omega
  · simp only [ByteArray.size_extract]; omega
def weekP (s : ByteArray) (q : St) : Bool := if q.2.1 = 1 then (nx s q).2.1 == 4 && decide (0 ≤ placeP q.2.2 weekL 0) else true
def weekS (s : ByteArray) (q : St) : St := if q.2.1 = 1 then nx s (nx s q) else q
def monthP (q : St) : Int × Bool := if q.2.1 = 1 then (placeP q.2.2 monthL 0 + 1, decide (0 ≤ placeP q.2.2 monthL 0)) else (0, false)
set_option maxHeartbeats 1000000 in
theorem week_calls (c t : Nat) (s : ByteArray) (q : St) (w : World) (hs : s.size ≤ 140737488351232) (hi : q.1 ≤ s.size) (hx : q.2.2.size ≤ 140737488351232) (hc : CurS c t s q w) (hcl : c < w.heap.size) :
    Calls Tryd.prog 53 #[.pointer (some ⟨c, 0, none⟩)] w fun e w' => e = .returned (.bool (weekP s q)) ∧ CurS c t s (weekS s q) w' ∧ Turned c w w' := by
  obtain ⟨i, k, x⟩ := q
  obtain ⟨c0, c1, c2, c3, z1, z2, z3⟩ := cur4 hc
  have HC := Lib.hid hc
  clear hc
  by_cases hk : k = 1
  · have e1 : weekP s (i, k, x) = ((nx s (i, k, x)).2.1 == 4 && decide (0 ≤ placeP x weekL 0)) := if_pos hk
    have e2 : weekS s (i, k, x) = nx s (nx s (i, k, x)) := if_pos hk
    rw [e1, e2]
    have hg : (k != 1) = false := by rw [bne_eq_false_iff_eq]; exact hk
    have hi2 := nx_le s (i, k, x) hi
    have HNX := Lib.hid (fun w h => nx_calls c t s (i, k, x) w hs hi h)
    have hsh := fun w h => sign_calls c t s (nx s (i, k, x)) 4 w hs hi2 h
    generalize nx s (i, k, x) = q1 at *
    have HSH := Lib.hid hsh
    obtain ⟨P, hP⟩ : ∃ P, placeP x weekL 0 = P := ⟨_, rfl⟩
    rw [hP]
    have HP := Lib.hid hP
    have hx' : x.size ≤ 140737488351232 := hx
    clear hsh e1 e2 hk hP hx
    go_enter Tryd.func53, Tryd.ntmps53
    go_wp2_with fail
    refine (weekdays_calls _).mono ?_
    rintro e w1 ⟨rfl, hb1⟩
    go_wp2_with fail
    have hrow := heap_alloc_new w1 (.cells (weekL.map Value.string).toArray 69)
    have hT := ((Turned.refl c w).made hb1).alloc (.cells (weekL.map Value.string).toArray 69)
    have hC : CurS c t s (i, k, x) (w1.alloc (.cells (weekL.map Value.string).toArray 69)) := by
      have h : w.heap[c]? = some (.cells #[.string s, .int .i64 i, .int .i64 k, .string x] t (0, 0)) := HC.out
      show (w1.alloc (.cells (weekL.map Value.string).toArray 69)).heap[c]? = _
      rw [Below.heap_alloc _ _ _ (Nat.lt_of_lt_of_le hcl hb1.size), hb1.block c hcl, h]
    obtain ⟨g, hg1⟩ : ∃ g, w1.heap.size = g := ⟨_, rfl⟩
    obtain ⟨w2, hw2⟩ : ∃ w2, w1.alloc (.cells (weekL.map Value.string).toArray 69) = w2 := ⟨_, rfl⟩
    rw [hw2] at hrow hT hC
    rw [hg1] at hrow ⊢
    rw [show w1.alloc (Obj.cells #[Value.string ⟨#[83, 117, 110]⟩, .string ⟨#[77, 111, 110]⟩, .string ⟨#[84, 117, 101]⟩, .string ⟨#[87, 101, 100]⟩, .string ⟨#[84, 104, 117]⟩, .string ⟨#[70, 114, 105]⟩, .string ⟨#[83, 97, 116]⟩] 69) = w2 from hw2]
    have hglt : g < w2.heap.size := (Array.getElem?_eq_some_iff.1 hrow).1
    have hcl2 : c < w2.heap.size := Nat.lt_of_lt_of_le hcl hT.size
    have HROW := Lib.hid hrow
    have HT := Lib.hid hT
    have HC2 := Lib.hid hC
    clear hrow hw2 hg1 hb1 hT hC c0 c1 c2 c3 z1 z2 z3 HC
    obtain ⟨c0, c1, c2, c3, z1, z2, z3⟩ := cur4 HC2.out
    go_region_with (go_at_call 92; refine (place_calls weekL g 7 x _ hx' (by decide) week_small (fun j x hx => week_cells (by exact HROW.out) j x hx) (by exact hglt)).mono ?_; rw [HP.out]; rintro e w3 ⟨rfl, hb3⟩; have HT3 := Lib.hid (HT.out.drew.made hb3); have HC3 := Lib.hid ((hb3.block c (by exact hcl2)).trans HC2.out); clear hb3)
    go_wp2_with fail
    refine (HNX.out _ (by exact HC3.out)).mono ?_
    rintro e w4 ⟨rfl, h1, h2⟩
    have H1 := Lib.hid h1
    have H2 := Lib.hid (HT3.out.trans h2)
    clear h1 h2 c0 c1 c2 c3 z1 z2 z3 HT3 HC3
    go_wp2_with fail
    refine (HSH.out _ H1.out).mono ?_
    rintro e w5 ⟨rfl, h3, h4⟩
    have H3 := Lib.hid h3
    have H4 := Lib.hid (H2.out.trans h4)
    clear h3 h4
    by_cases hq : q1.2.1 = 4
    · have hq2 : (q1.2.1 == 4) = true := by rw [beq_iff_eq]; exact hq
      go_wp2
      go_ret
      exact ⟨by simp [hq], H3.out, H4.out⟩
    · have hq2 : (q1.2.1 == 4) = false := by rw [beq_eq_false_iff_ne]; exact hq
      go_wp2
      go_ret
      exact ⟨by simp [hq], H3.out, H4.out⟩
  · have e1 : weekP s (i, k, x) = true := if_neg hk
    have e2 : weekS s (i, k, x) = (i, k, x) := if_neg hk
    rw [e1, e2]
    have hg : (k != 1) = true := by rw [bne_iff_ne]; exact hk
    clear e1 e2 hx
    go_enter Tryd.func53, Tryd.ntmps53
    go_wp2
    go_ret
    exact ⟨rfl, HC.out, Turned.refl _ _⟩
set_option maxHeartbeats 1000000 in
theorem month_calls (c t : Nat) (s : ByteArray) (q : St) (w : World) (hs : s.size ≤ 140737488351232) (hi : q.1 ≤ s.size) (hx : q.2.2.size ≤ 140737488351232) (hc : CurS c t s q w) (hcl : c < w.heap.size) :
    Calls Tryd.prog 55 #[.pointer (some ⟨c, 0, none⟩)] w fun e w' => e = .returned (.tuple #[.int .i64 (monthP q).1, .bool (monthP q).2]) ∧ CurS c t s (nx s q) w' ∧ Turned c w w' := by
  obtain ⟨i, k, x⟩ := q
  obtain ⟨c0, c1, c2, c3, z1, z2, z3⟩ := cur4 hc
  have HC := Lib.hid hc
  clear hc
  have HNX := Lib.hid (fun w h => nx_calls c t s (i, k, x) w hs hi h)
  by_cases hk : k = 1
  · have e1 : monthP (i, k, x) = (placeP x monthL 0 + 1, decide (0 ≤ placeP x monthL 0)) := if_pos hk
    rw [e1]
    have hg : (k == 1) = true := by rw [beq_iff_eq]; exact hk
    have hr := placeP_range x monthL 0
    obtain ⟨P, hP⟩ : ∃ P, placeP x monthL 0 = P := ⟨_, rfl⟩
    rw [hP] at hr ⊢
    have hr0 : -1 ≤ P := hr.1
    have hr1 : P < 12 := hr.2
    have HP := Lib.hid hP
    have hx' : x.size ≤ 140737488351232 := hx
    generalize nx s (i, k, x) = q1 at *
    dsimp only
    clear e1 hk hP hx hr
    go_enter Tryd.func55, Tryd.ntmps55
    go_wp2_with fail
    refine (months_calls _).mono ?_
    rintro e w1 ⟨rfl, hb1⟩
    go_wp2_with fail
    have hrow := heap_alloc_new w1 (.cells (monthL.map Value.string).toArray 71)
    have hT := ((Turned.refl c w).made hb1).alloc (.cells (monthL.map Value.string).toArray 71)
    have hC : CurS c t s (i, k, x) (w1.alloc (.cells (monthL.map Value.string).toArray 71)) := by
      have h : w.heap[c]? = some (.cells #[.string s, .int .i64 i, .int .i64 k, .string x] t (0, 0)) := HC.out
      show (w1.alloc (.cells (monthL.map Value.string).toArray 71)).heap[c]? = _
      rw [Below.heap_alloc _ _ _ (Nat.lt_of_lt_of_le hcl hb1.size), hb1.block c hcl, h]
    obtain ⟨g, hg1⟩ : ∃ g, w1.heap.size = g := ⟨_, rfl⟩
    obtain ⟨w2, hw2⟩ : ∃ w2, w1.alloc (.cells (monthL.map Value.string).toArray 71) = w2 := ⟨_, rfl⟩
    rw [hw2] at hrow hT hC
    rw [hg1] at hrow ⊢
    rw [show w1.alloc (Obj.cells #[Value.string ⟨#[74, 97, 110]⟩, .string ⟨#[70, 101, 98]⟩, .string ⟨#[77, 97, 114]⟩, .string ⟨#[65, 112, 114]⟩, .string ⟨#[77, 97, 121]⟩, .string ⟨#[74, 117, 110]⟩, .string ⟨#[74, 117, 108]⟩, .string ⟨#[65, 117, 103]⟩, .string ⟨#[83, 101, 112]⟩, .string ⟨#[79, 99, 116]⟩, .string ⟨#[78, 111, 118]⟩, .string ⟨#[68, 101, 99]⟩] 71) = w2 from hw2]
    have hglt : g < w2.heap.size := (Array.getElem?_eq_some_iff.1 hrow).1
    have hcl2 : c < w2.heap.size := Nat.lt_of_lt_of_le hcl hT.size
    have HROW := Lib.hid hrow
    have HT := Lib.hid hT
    have HC2 := Lib.hid hC
    clear hrow hw2 hg1 hb1 hT hC c0 c1 c2 c3 z1 z2 z3 HC
    obtain ⟨c0, c1, c2, c3, z1, z2, z3⟩ := cur4 HC2.out
    go_region_with (go_at_call 92; refine (place_calls monthL g 12 x _ hx' (by decide) month_small (fun j x hx => month_cells (by exact HROW.out) j x hx) (by exact hglt)).mono ?_; rw [HP.out]; rintro e w3 ⟨rfl, hb3⟩; have HT3 := Lib.hid (HT.out.drew.made hb3); have HC3 := Lib.hid ((hb3.block c (by exact hcl2)).trans HC2.out); clear hb3)
    go_wp2_with fail
    refine (HNX.out _ (by exact HC3.out)).mono ?_
    rintro e w4 ⟨rfl, h1, h2⟩
    have H1 := Lib.hid h1
    have H2 := Lib.hid (HT3.out.trans h2)
    clear h1 h2 c0 c1 c2 c3 z1 z2 z3 HT3 HC3
    go_wp2
    go_ret2
    exact ⟨rfl, H1.out, H2.out⟩
  · have e1 : monthP (i, k, x) = (0, false) := if_neg hk
    rw [e1]
    have hg : (k == 1) = false := by rw [beq_eq_false_iff_ne]; exact hk
    generalize nx s (i, k, x) = q1 at *
    clear e1 hx
    go_enter Tryd.func55, Tryd.ntmps55
    go_wp2_with fail
    refine (HNX.out _ (by exact HC.out)).mono ?_
    rintro e w4 ⟨rfl, h1, h2⟩
    have H1 := Lib.hid h1
    have H2 := Lib.hid h2
    clear h1 h2 c0 c1 c2 c3 z1 z2 z3 HC
    go_wp2
    go_ret2
    exact ⟨rfl, H1.out, H2.out⟩
end Go.Proofs.YtjlchnmpebdggaaDoor.Mo
end
section
namespace Go.Proofs.YtjlchnmpebdggaaDoor.Mo
open Go.RowKit Go.Proofs.YtjlchnmpebdggaaDoorW.PrintWords Go.Maps Go.WideMaps
def zoneL (l : List UInt8) : Int :=
  if l = [80, 68, 84] then (-420) else if l = [80, 83, 84] then (-480) else if l = [77, 68, 84] then (-360) else if l = [77, 83, 84] then (-420) else if l = [67, 68, 84] then (-300) else if l = [67, 83, 84] then (-360) else if l = [69, 68, 84] then (-240) else if l = [69, 83, 84] then (-300) else 0
theorem key9 : Keyed Tryd.prog 9 := string_keyed Tryd.underlying9
theorem zero3 (w : World) : (zeroValue 3).run Tryd.prog w = .ok (.int .i64 0) w := by kernel_rfl
theorem wpList_insert_own {H : Type} {P : Program} (w : World) {ops : Array Oper} {rest : List Oper} {o : Oper} {a : Act} {Q : Exit → Act → World → Prop}
    (hg : o.guard = none) (m x v : Operand) (t : TypeId) (hop : o.op = Op.insert t m x v)
    (k e : TypeId) (K : Keyed P k) (ht : P.underlying t = some (.map k e)) (R : Value → Option (DataW H × List MemPlace)) (b n : Nat) (D : DataW H)
    (hm : a.eval m = .map (some b)) (hown : w.ownsMap P k R b n D) (hn : n < maxLen) (key val : Value) (kl : Lit) (hx : a.eval x = key) (hv : a.eval v = val) (hkey : keyOf P k key = some kl)
    (d : DataW H) (ps : List MemPlace) (hval : R val = some (d, ps))
    (hK : ∀ w', w'.ownsMap P k R b (n + 1) (D.put kl d) → w.grownBy w' (some b) → wpList P ops Q rest (a.put o.dst undef) w') :
    wpList P ops Q (o :: rest) a w := by
  refine wpList_plain hg fun K' hK' => ?_
  obtain ⟨w', hrun, r1, r2⟩ := hown.update K ht hn hkey hval
  unfold Oper.wp
  simp [execOp, hop, hm, hx, hv, hrun, Result.andThen]
  exact hK' _ _ (hK w' r1 r2)
def zoneD : DataW Unit := (((((((((.map [] : DataW Unit).put (.string [69, 83, 84]) (.lit (.int .i64 (-300)))).put (.string [69, 68, 84]) (.lit (.int .i64 (-240)))).put (.string [67, 83, 84]) (.lit (.int .i64 (-360)))).put (.string [67, 68, 84]) (.lit (.int .i64 (-300)))).put (.string [77, 83, 84]) (.lit (.int .i64 (-420)))).put (.string [77, 68, 84]) (.lit (.int .i64 (-360)))).put (.string [80, 83, 84]) (.lit (.int .i64 (-480)))).put (.string [80, 68, 84]) (.lit (.int .i64 (-420))))
theorem zoneD_at (l : List UInt8) : zoneD.atKey (.string l) (.lit (.int .i64 0)) = .lit (.int .i64 (zoneL l)) := by
  unfold zoneD zoneL
  by_cases hPDT : l = [80, 68, 84]
  · rw [if_pos hPDT, hPDT]; rfl
  rw [if_neg hPDT, atKey_put_other (fun h => hPDT (Lit.string.inj h))]
  by_cases hPST : l = [80, 83, 84]
  · rw [if_pos hPST, hPST]; rfl
  rw [if_neg hPST, atKey_put_other (fun h => hPST (Lit.string.inj h))]
  by_cases hMDT : l = [77, 68, 84]
  · rw [if_pos hMDT, hMDT]; rfl
  rw [if_neg hMDT, atKey_put_other (fun h => hMDT (Lit.string.inj h))]
  by_cases hMST : l = [77, 83, 84]
  · rw [if_pos hMST, hMST]; rfl
  rw [if_neg hMST, atKey_put_other (fun h => hMST (Lit.string.inj h))]
  by_cases hCDT : l = [67, 68, 84]
  · rw [if_pos hCDT, hCDT]; rfl
  rw [if_neg hCDT, atKey_put_other (fun h => hCDT (Lit.string.inj h))]
  by_cases hCST : l = [67, 83, 84]
  · rw [if_pos hCST, hCST]; rfl
  rw [if_neg hCST, atKey_put_other (fun h => hCST (Lit.string.inj h))]
  by_cases hEDT : l = [69, 68, 84]
  · rw [if_pos hEDT, hEDT]; rfl
  rw [if_neg hEDT, atKey_put_other (fun h => hEDT (Lit.string.inj h))]
  by_cases hEST : l = [69, 83, 84]
  · rw [if_pos hEST, hEST]; rfl
  rw [if_neg hEST, atKey_put_other (fun h => hEST (Lit.string.inj h))]
  rfl
set_option maxHeartbeats 1000000 in
theorem named_calls (w : World) : Calls Tryd.prog 93 #[] w fun e w' => ∃ b, e = .returned (.map (some b)) ∧ w'.ownsMap Tryd.prog 9 (plainElem Tryd.prog 3) b 8 zoneD ∧ Below w.heap.size w w' := by
  have hmm := @run_makeMap Tryd.prog
  have B0 : Below w.heap.size w (w.alloc (.map #[] 0)) := below_alloc (Below.refl _ w) _
  go_enter Tryd.func93, Tryd.ntmps93
  go_wp2_with (first | (refine wpList_insert_own (H := Unit) _ rfl (.tmp 1) (.const (.string ⟨#[69, 83, 84]⟩)) (.const (.int .i64 (-300))) 90 rfl 9 3 key9 Tryd.underlying90 (plainElem Tryd.prog 3) w.heap.size 0 _ rfl (World.ownsMap_made _ _ _ _) (by decide) _ _ _ rfl rfl (keyOf_string_mk Tryd.underlying9 (by decide)) (.lit (.int .i64 (-300))) [] (plainElem_int Tryd.underlying3 (by decide)) ?_; intro w1 h1 g1; have B1 : Below w.heap.size w w1 := B0.grown g1 B0.size (fun k hk => by cases hk; exact Nat.le_refl _); clear B0 g1)| (refine wpList_insert_own (H := Unit) _ rfl (.tmp 1) (.const (.string ⟨#[69, 68, 84]⟩)) (.const (.int .i64 (-240))) 90 rfl 9 3 key9 Tryd.underlying90 (plainElem Tryd.prog 3) w.heap.size 1 _ rfl h1 (by decide) _ _ _ rfl rfl (keyOf_string_mk Tryd.underlying9 (by decide)) (.lit (.int .i64 (-240))) [] (plainElem_int Tryd.underlying3 (by decide)) ?_; intro w2 h2 g2; have B2 : Below w.heap.size w w2 := B1.grown g2 B1.size (fun k hk => by cases hk; exact Nat.le_refl _); clear B1 g2)| (refine wpList_insert_own (H := Unit) _ rfl (.tmp 1) (.const (.string ⟨#[67, 83, 84]⟩)) (.const (.int .i64 (-360))) 90 rfl 9 3 key9 Tryd.underlying90 (plainElem Tryd.prog 3) w.heap.size 2 _ rfl h2 (by decide) _ _ _ rfl rfl (keyOf_string_mk Tryd.underlying9 (by decide)) (.lit (.int .i64 (-360))) [] (plainElem_int Tryd.underlying3 (by decide)) ?_; intro w3 h3 g3; have B3 : Below w.heap.size w w3 := B2.grown g3 B2.size (fun k hk => by cases hk; exact Nat.le_refl _); clear B2 g3)| (refine wpList_insert_own (H := Unit) _ rfl (.tmp 1) (.const (.string ⟨#[67, 68, 84]⟩)) (.const (.int .i64 (-300))) 90 rfl 9 3 key9 Tryd.underlying90 (plainElem Tryd.prog 3) w.heap.size 3 _ rfl h3 (by decide) _ _ _ rfl rfl (keyOf_string_mk Tryd.underlying9 (by decide)) (.lit (.int .i64 (-300))) [] (plainElem_int Tryd.underlying3 (by decide)) ?_; intro w4 h4 g4; have B4 : Below w.heap.size w w4 := B3.grown g4 B3.size (fun k hk => by cases hk; exact Nat.le_refl _); clear B3 g4)| (refine wpList_insert_own (H := Unit) _ rfl (.tmp 1) (.const (.string ⟨#[77, 83, 84]⟩)) (.const (.int .i64 (-420))) 90 rfl 9 3 key9 Tryd.underlying90 (plainElem Tryd.prog 3) w.heap.size 4 _ rfl h4 (by decide) _ _ _ rfl rfl (keyOf_string_mk Tryd.underlying9 (by decide)) (.lit (.int .i64 (-420))) [] (plainElem_int Tryd.underlying3 (by decide)) ?_; intro w5 h5 g5; have B5 : Below w.heap.size w w5 := B4.grown g5 B4.size (fun k hk => by cases hk; exact Nat.le_refl _); clear B4 g5)| (refine wpList_insert_own (H := Unit) _ rfl (.tmp 1) (.const (.string ⟨#[77, 68, 84]⟩)) (.const (.int .i64 (-360))) 90 rfl 9 3 key9 Tryd.underlying90 (plainElem Tryd.prog 3) w.heap.size 5 _ rfl h5 (by decide) _ _ _ rfl rfl (keyOf_string_mk Tryd.underlying9 (by decide)) (.lit (.int .i64 (-360))) [] (plainElem_int Tryd.underlying3 (by decide)) ?_; intro w6 h6 g6; have B6 : Below w.heap.size w w6 := B5.grown g6 B5.size (fun k hk => by cases hk; exact Nat.le_refl _); clear B5 g6)| (refine wpList_insert_own (H := Unit) _ rfl (.tmp 1) (.const (.string ⟨#[80, 83, 84]⟩)) (.const (.int .i64 (-480))) 90 rfl 9 3 key9 Tryd.underlying90 (plainElem Tryd.prog 3) w.heap.size 6 _ rfl h6 (by decide) _ _ _ rfl rfl (keyOf_string_mk Tryd.underlying9 (by decide)) (.lit (.int .i64 (-480))) [] (plainElem_int Tryd.underlying3 (by decide)) ?_; intro w7 h7 g7; have B7 : Below w.heap.size w w7 := B6.grown g7 B6.size (fun k hk => by cases hk; exact Nat.le_refl _); clear B6 g7)| (refine wpList_insert_own (H := Unit) _ rfl (.tmp 1) (.const (.string ⟨#[80, 68, 84]⟩)) (.const (.int .i64 (-420))) 90 rfl 9 3 key9 Tryd.underlying90 (plainElem Tryd.prog 3) w.heap.size 7 _ rfl h7 (by decide) _ _ _ rfl rfl (keyOf_string_mk Tryd.underlying9 (by decide)) (.lit (.int .i64 (-420))) [] (plainElem_int Tryd.underlying3 (by decide)) ?_; intro w8 h8 g8; have B8 : Below w.heap.size w w8 := B7.grown g8 B7.size (fun k hk => by cases hk; exact Nat.le_refl _); clear B7 g8))
  go_ret
  exact ⟨_, rfl, h8, B8⟩
theorem named_look {w : World} {b : Nat} (h : w.ownsMap Tryd.prog 9 (plainElem Tryd.prog 3) b 8 zoneD) (x : ByteArray) (hx : x.size ≤ 9223372036854775807) :
    (Instr.lookup 90 (.map (some b)) (.string x) false).run Tryd.prog w = .ok (.int .i64 (zoneL x.data.toList)) w := by
  obtain ⟨c, h1, h2, _⟩ := h.lookup_int key9 Tryd.underlying90 Tryd.underlying3 (zero3 w) (keyOf_string_mk (s := x) Tryd.underlying9 hx)
  rw [zoneD_at] at h2
  have h3 : zoneL x.data.toList = c := by simpa using h2
  rw [h1, h3]
end Go.Proofs.YtjlchnmpebdggaaDoor.Mo
end
