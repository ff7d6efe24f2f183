import Derived.Test.YtcndhgpaoihblaaProg
import Derived.Test.YtcndhgpaoihblaaCrc
import Derived.WalkKit
import Derived.Below
import Derived.Laws.Rows
import Derived.Laws.CopyOwn
import Derived.KernelRfl
import Derived.Lib.Hide
namespace Go.Proofs.Ytcndhgpaoihblaa
open Go.RowKit

/-- The table's cells as far as they are filled: k of them. -/
def tabCells (k : Nat) : Array Value := ((List.range 256).map fun i => if i < k then Value.int .u32 (Crc.tab i) else Value.int .u32 0).toArray
theorem zero62 (w : World) : Sem.run Try.prog (zeroValue 62) w = .ok (.agg (tabCells 0)) w := by kernel_rfl
theorem tabCells_size (k : Nat) : (tabCells k).size = 256 := by simp [tabCells]
theorem tabCells_get (k j : Nat) (h : j < 256) : (tabCells k)[j]? = some (if j < k then Value.int .u32 (Crc.tab j) else Value.int .u32 0) := by
  simp [tabCells, h]
theorem tabCells_set (k : Nat) (h : k < 256) : (tabCells k).setIfInBounds k (.int .u32 (Crc.tab k)) = tabCells (k + 1) := by
  apply Array.ext_getElem?
  intro j
  rw [Array.getElem?_setIfInBounds]
  by_cases hj : j < 256
  · rw [tabCells_get _ _ hj, tabCells_get _ _ hj, tabCells_size]
    by_cases e : k = j
    · subst e; simp [h]
    · rw [if_neg e]
      by_cases hjk : j < k
      · rw [if_pos hjk, if_pos (by omega)]
      · rw [if_neg hjk, if_neg (by omega)]
  · have e : ∀ q, (tabCells q)[j]? = none := fun q => Array.getElem?_eq_none (by rw [tabCells_size]; omega)
    rw [e, e, if_neg (by omega)]
theorem and1 (r : Nat) (h : r < 4294967296) : (bits BinOp.and IntKind.u32 (r : Int) 1 == 1) = decide (r % 2 = 1) := by
  have e : bits .and .u32 (r : Int) 1 = ((r % 2 : Nat) : Int) := by
    have := Crc.and_u32 r 1 (by omega) (by decide)
    rw [Nat.and_one_is_mod] at this
    exact this
  rw [e]
  rcases Nat.mod_two_eq_zero_or_one r with h | h <;> rw [h] <;> rfl
theorem xor1 (r : Nat) (h : r < 4294967296) : bits BinOp.xor IntKind.u32 ((r : Int) / 2) 3988292384 = ((r / 2 ^^^ 3988292384 : Nat) : Int) :=
  Crc.xor_u32 (r / 2) 3988292384 (by omega) (by decide)

set_option maxHeartbeats 400000 in
set_option maxRecDepth 100000 in
theorem steps_calls (w : World) :
    Calls Try.prog 28 #[] w fun e w' => e = .returned (.agg (tabCells 256)) ∧ Below w.heap.size w w' := by
  have hz := zero62
  go_enter Try.func28, Try.ntmps28
  go_wp2
  go_loopw [4] (fun i wr => ∃ k : Nat, k ≤ 256 ∧ i = .int .i64 k ∧ wr.heap[w.heap.size + 1]? = some (.cells (tabCells k) 62 (0, 0)) ∧
      wr.heap[w.heap.size]? = some (.cells (tabCells 0) 62 (0, 0)) ∧ Below w.heap.size w wr) (fun i _ => 256 - (intOf i).toNat)
  case atStart =>
    exact ⟨0, by omega, rfl, heap_alloc2_new _ _ _, heap_alloc2_old _ _ _, ((Below.refl _ _).alloc (Nat.le_refl _) _).alloc (by simp) _⟩
  case round =>
    obtain ⟨k, hk, rfl, hT0, hR0, hB⟩ := hrel
    have hT := Lib.hid hT0
    have hR := Lib.hid hR0
    clear hT0 hR0 hz
    by_cases hlt : k < 256
    · go_wp2
      go_loop [3, 9] (fun r j => ∃ n : Nat, n ≤ 8 ∧ j = .int .i64 n ∧ r = .int .u32 (Crc.turns n k)) (fun _ j => 8 - (intOf j).toNat)
      case atStart => exact ⟨0, by omega, rfl, rfl⟩
      case round =>
        obtain ⟨n, hn, rfl, rfl⟩ := hrel
        have hlt32 := Crc.turns_lt n (r := k) (by omega)
        by_cases h8 : n < 8
        · have hs := Lib.hid (Crc.turns_succ n k)
          have ha := Lib.hid (and1 (Crc.turns n k) hlt32)
          have hx := Lib.hid (xor1 (Crc.turns n k) hlt32)
          go_wp2
          all_goals
            go_round
            case rel =>
              refine ⟨n + 1, by omega, by go_num, ?_⟩
              rw [hs.out]
              unfold Crc.turn1
              first
                | (have hd : (bits BinOp.and IntKind.u32 ((Crc.turns n k : Nat) : Int) 1 == 1) = true := by assumption
                   rw [ha.out] at hd
                   rw [if_pos (of_decide_eq_true hd), hx.out])
                | (have hd : (bits BinOp.and IntKind.u32 ((Crc.turns n k : Nat) : Int) 1 == 1) = false := by assumption
                   rw [ha.out] at hd
                   rw [if_neg (of_decide_eq_false hd)]; rfl)
            case measure => simp [intOf]; omega
        · have hc : wr.cell? ⟨w.heap.size + 1, k, none⟩ = some (.int .u32 0) := by
            rw [cell_of_row wr _ _ _ _ _ hT.out, tabCells_get _ _ hlt, if_neg (by omega)]
          have hf : wr.frozen? ⟨w.heap.size + 1, k, none⟩ = false := frozen_of_row wr _ _ _ _ hT.out
          go_wp2
          go_roundw
          case rel =>
            refine ⟨k + 1, by omega, by go_num, ?_, ?_, ?_⟩
            · obtain rfl : n = 8 := by omega
              rw [heap_setCell_same wr _ _ _ _ _ hT.out]
              rw [← tabCells_set k hlt]; rfl
            · rw [heap_setCell_other wr _ _ _ (by simp)]; exact hR.out
            · exact hB.setCell (by simp) _
          case measure => simp [intOf]; omega
    · obtain rfl : k = 256 := by omega
      have hi : (Try.prog.info? 62).map (·.size) = some (tabCells 256).size := by rw [tabCells_size]; kernel_rfl
      have h1 : ∀ v ∈ (tabCells 256).toList, v.oneCell' = true := by
        intro v hv
        simp [tabCells] at hv
        obtain ⟨q, _, rfl⟩ := hv
        split <;> rfl
      have hst : Sem.run Try.prog (storeCells ⟨w.heap.size, 0, none⟩ (tabCells 256).toList) wr = .ok () (wr.setRow w.heap.size (tabCells 256)) :=
        (run_storeCells_from (P := Try.prog) w.heap.size 62 (tabCells 256).toList 0 (tabCells 0) wr hR.out (by simp [tabCells_size]) h1).trans (by simp)
      clear h1
      go_wp2_with (refine wpList_load_row rfl 62 (.tmp 1) rfl (w.heap.size + 1) rfl 62 (tabCells 256) (0, 0) (.array 256 61) hT.out Try.underlying62 rfl hi ?_)
      have hg2 := setRow_heap wr w.heap.size (tabCells 0) (tabCells 256) 62 (0, 0) hR.out
      refine bodyPost_ret (v := .agg (tabCells 256)) (results_cell_row (P := Try.prog) rfl _ _ w.heap.size 62 (tabCells 256) (0, 0) (.array 256 61) rfl hg2 Try.underlying62 rfl hi) rfl ⟨rfl, ?_⟩
      exact below_setRow hB (Nat.le_refl _) _
end Go.Proofs.Ytcndhgpaoihblaa
