import Derived.Test.YtcndhgpaoihblaaSteps
import Derived.Deep.WholeRow
namespace Go.Proofs.Ytcndhgpaoihblaa
open Go.RowKit

theorem ret_int {k : IntKind} {a b : Int} (h : a = b) : Ending.returned (.int k a) = .returned (.int k b) := by rw [h]
theorem tab_cell {w : World} {g : Nat} (h : w.heap[g]? = some (.cells (tabCells 256) 62 (0, 0))) (j : Nat) (hj : j < 256) : w.cell? ⟨g, j, none⟩ = some (.int .u32 (Crc.tab j)) := by
  rw [cell_of_row w _ _ _ _ _ h, tabCells_get _ _ hj, if_pos hj]
theorem take_snoc (s : ByteArray) (k : Nat) (h : k < s.size) : s.data.toList.take (k + 1) = s.data.toList.take k ++ [s[k]] := by
  rw [List.take_succ_eq_append_getElem (by simpa using h)]; rfl
theorem tabCells_one (k : Nat) : (tabCells k).all (·.oneCell') = true := by
  rw [Array.all_eq_true_iff_forall_mem]
  intro v hv
  simp [tabCells] at hv
  obtain ⟨q, _, rfl⟩ := hv
  split <;> rfl
theorem store_new (w : World) : Sem.run Try.prog (storeCells ⟨w.heap.size, 0, none⟩ (tabCells 256).toList) (w.alloc (.cells (tabCells 0) 62)) = .ok () (w.alloc (.cells (tabCells 256) 62)) :=
  run_storeCells_new w 62 (tabCells 0) (tabCells 256) (by rw [tabCells_size]; kernel_rfl) (by rw [tabCells_size, tabCells_size]) (tabCells_one _)

set_option maxHeartbeats 400000 in
set_option maxRecDepth 100000 in
theorem sum_calls (s : ByteArray) (w : World) (hs : s.size ≤ 9223372036854775807) :
    Calls Try.prog 12 #[.string s] w fun e w' => e = .returned (.int .i64 (Crc.sum s)) ∧ Below w.heap.size w w' := by
  have hz := zero62
  have hst := store_new
  go_enter Try.func12, Try.ntmps12
  go_wp2_with (go_at_call 28; refine (steps_calls _).mono ?_; rintro e w1 ⟨rfl, hB⟩)
  have hT := Lib.hid (heap_alloc_new w1 (.cells (tabCells 256) 62))
  have hB1 : Below w.heap.size w (w1.alloc (.cells (tabCells 256) 62)) := hB.alloc hB.size _
  clear hB hz hst
  obtain ⟨g, hg⟩ : ∃ g, g = w1.heap.size := ⟨_, rfl⟩
  rw [← hg] at hT ⊢
  clear hg
  generalize w1.alloc (.cells (tabCells 256) 62) = w2 at *
  go_loop [4, 9] (fun r i => ∃ k : Nat, k ≤ s.size ∧ i = .int .i64 k ∧ r = .int .u32 (Crc.reg 4294967295 (s.data.toList.take k))) (fun _ i => s.size - (intOf i).toNat)
  case atStart => exact ⟨0, by omega, rfl, rfl⟩
  case round =>
    obtain ⟨k, hk, rfl, rfl⟩ := hrel
    by_cases hlt : k < s.size
    · have hR := Crc.reg_lt (s.data.toList.take k) (r := 4294967295) (by decide)
      have hsn : Hid (Crc.reg 4294967295 (s.data.toList.take (k + 1)) = Crc.byte1 (Crc.reg 4294967295 (s.data.toList.take k)) s[k]) := by
        rw [take_snoc s k hlt, Crc.reg_snoc]; trivial
      generalize Crc.reg 4294967295 (s.data.toList.take k) = R at *
      have hb : s[k].toNat < 256 := s[k].toNat_lt
      have hj : (R % 256) ^^^ s[k].toNat < 256 := Nat.xor_lt_two_pow (n := 8) (by omega) hb
      have hX : bits BinOp.xor IntKind.u8 ((R : Int) % 256) (s[k].toNat : Int) = (((R % 256) ^^^ s[k].toNat : Nat) : Int) :=
        Crc.xor_u8 (R % 256) s[k].toNat (by omega) hb
      have hc := tab_cell hT.out _ hj
      have ht := Crc.turns_lt 8 (r := (R % 256) ^^^ s[k].toNat) (by omega)
      have hY : Hid (bits BinOp.xor IntKind.u32 ((R : Int) / 256) (Crc.tab ((R % 256) ^^^ s[k].toNat) : Int) = ((Crc.byte1 R s[k] : Nat) : Int)) := by
        rw [Crc.byte1_tab]
        exact Crc.xor_u32 (R / 256) _ (by omega) ht
      go_wp2
      go_round
      case rel =>
        refine ⟨k + 1, by omega, by go_num, ?_⟩
        rw [hsn.out, ← hY.out]
      case measure => simp [intOf]; omega
    · obtain rfl : k = s.size := by omega
      go_wp2
      go_ret
      refine ⟨ret_int ?_, hB1⟩
      rw [List.take_of_length_le (by simp)]
      have hR := Crc.reg_lt s.data.toList (r := 4294967295) (by decide)
      have hx := Crc.xor_u32 4294967295 (Crc.reg 4294967295 s.data.toList) (by decide) hR
      have hs2 := Crc.sum_lt s
      have e : (4294967295 ^^^ Crc.reg 4294967295 s.data.toList) = Crc.sum s := Nat.xor_comm _ _
      rw [e] at hx
      rw [show (IntKind.u32.max : Int) = ((4294967295 : Nat) : Int) from rfl, hx]
      exact IntWalk.wrap64_in _ ⟨by omega, by omega⟩
end Go.Proofs.Ytcndhgpaoihblaa
