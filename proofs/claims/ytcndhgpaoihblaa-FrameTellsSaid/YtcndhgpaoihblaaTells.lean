/- postbaglaw10.FrameTells: it answers true of every argument. -/
import Derived.Test.YtcndhgpaoihblaaGivenK
import Derived.Test.YtcndhgpaoihblaaBurst
import Derived.Laws.IdiomStrings
import Derived.DataShut
namespace Go.Proofs.Ytcndhgpaoihblaa.Fr
open Go.RowKit Go.Proofs.YtcndhgpaoihblaaW.PrintWords
open Plain Crc

/-- The bytes as far as they are turned: k of the four. -/
def spoil (l : List UInt8) (i t : Nat) : Nat → List UInt8
  | 0 => l
  | k + 1 => (spoil l i t k).set (i + k) ((l.getD (i + k) 0) ^^^ nth t k)
theorem spoil_length (l : List UInt8) (i t : Nat) : ∀ k, (spoil l i t k).length = l.length
  | 0 => rfl
  | k + 1 => by simp [spoil, spoil_length l i t k]
theorem spoil_far (l : List UInt8) (i t : Nat) : ∀ (k j : Nat), i + k ≤ j → (spoil l i t k)[j]? = l[j]?
  | 0, _, _ => rfl
  | k + 1, j, h => by
    show ((spoil l i t k).set (i + k) _)[j]? = _
    rw [List.getElem?_set_ne (by omega)]
    exact spoil_far l i t k j (by omega)
theorem spoil_four (p q : List UInt8) (b0 b1 b2 b3 : UInt8) (t : Nat) : spoil (p ++ [b0, b1, b2, b3] ++ q) p.length t 4 = p ++ [b0 ^^^ nth t 0, b1 ^^^ nth t 1, b2 ^^^ nth t 2, b3 ^^^ nth t 3] ++ q := by
  simp [spoil]
theorem split_four (l : List UInt8) (i : Nat) (h : i + 4 ≤ l.length) : ∃ p q b0 b1 b2 b3, l = p ++ [b0, b1, b2, b3] ++ q ∧ p.length = i := by
  refine ⟨l.take i, l.drop (i + 4), l[i], l[i + 1], l[i + 2], l[i + 3], ?_, by simp; omega⟩
  conv => lhs; rw [← List.take_append_drop i l]
  rw [List.append_assoc]
  congr 1
  rw [List.drop_eq_getElem_cons (by omega), List.drop_eq_getElem_cons (by omega), List.drop_eq_getElem_cons (by omega), List.drop_eq_getElem_cons (by omega)]
  rfl
theorem spoil_sum (a : ByteArray) (i t : Nat) (h : i + 4 ≤ a.size) (h0 : 0 < t) (h1 : t < 4294967296) : Crc.sum a ≠ Crc.sum ⟨(spoil a.data.toList i t 4).toArray⟩ := by
  intro e
  have e2 := sum_inj e
  obtain ⟨p, q, b0, b1, b2, b3, hl, rfl⟩ := split_four a.data.toList i (by simpa using h)
  rw [hl, spoil_four] at e2
  exact burst h0 h1 e2
theorem shr_nth (b : UInt8) (t j : Nat) : bits BinOp.xor IntKind.u8 (b.toNat : Int) (((t / 2 ^ (8 * j) % 256 : Nat)) : Int) = ((b ^^^ nth t j).toNat : Int) := by
  rw [Crc.xor_u8 _ _ b.toNat_lt (by omega), UInt8.toNat_xor]
  unfold nth
  rw [UInt8.toNat_ofNat']

set_option maxHeartbeats 1000000 in
set_option maxRecDepth 100000 in
theorem tells_calls (a : ByteArray) (i t : Int) (w : World) (ha : a.size ≤ 140737488351232) (hi : (Lit.int .i64 i).wf = true) (ht : (Lit.int .i64 t).wf = true) :
    Calls Try.prog 10 #[.string a, .int .i64 i, .int .i64 t] w fun e w' => e = .returned (.bool true) ∧ Below w.heap.size w w' := by
  have hib := (Lit.wf_int_iff .i64 i).1 hi
  have htb := (Lit.wf_int_iff .i64 t).1 ht
  simp only [show IntKind.i64.min = -9223372036854775808 from rfl, show IntKind.i64.max = 9223372036854775807 from rfl] at hib htb
  clear hi ht
  by_cases c : (a.size : Int) > 4195304 ∨ i < 0 ∨ i > (a.size : Int) - 4 ∨ t < 1 ∨ t > 4294967295
  · by_cases c1 : (a.size : Int) > 4195304
    · clear c
      go_enter Try.func10, Try.ntmps10
      go_wp2
      go_ret
      exact ⟨rfl, Below.refl _ _⟩
    · by_cases c2 : i < 0
      · clear c
        go_enter Try.func10, Try.ntmps10
        go_wp2
        go_ret
        exact ⟨rfl, Below.refl _ _⟩
      · by_cases c3 : i > (a.size : Int) - 4
        · clear c
          go_enter Try.func10, Try.ntmps10
          go_wp2
          go_ret
          exact ⟨rfl, Below.refl _ _⟩
        · by_cases c4 : t < 1
          · clear c
            go_enter Try.func10, Try.ntmps10
            go_wp2
            go_ret
            exact ⟨rfl, Below.refl _ _⟩
          · have c5 : t > 4294967295 := by omega
            clear c
            go_enter Try.func10, Try.ntmps10
            go_wp2
            go_ret
            exact ⟨rfl, Below.refl _ _⟩
  · have hcv := fun w => run_bytes_of_string (P := Try.prog) w 9 56 5 a Try.underlying9 Try.underlying56 Try.underlying5
    go_enter Try.func10, Try.ntmps10
    go_wp2_with fail
    obtain ⟨i, rfl⟩ := Int.eq_ofNat_of_zero_le (show 0 ≤ i by omega)
    obtain ⟨t, rfl⟩ := Int.eq_ofNat_of_zero_le (show 0 ≤ t by omega)
    have c1 : i + 4 ≤ a.size := by omega
    have c2 : 0 < t := by omega
    have c3 : t < 4294967296 := by omega
    have cell0 : ∀ (j : Nat) (b : UInt8), a.data.toList[j]? = some b → (w.alloc (Obj.cells (bytesRow a (grownCap w a.size 0 5)) 5 ((bytesRow a (grownCap w a.size 0 5)).size, (bytesRow a (grownCap w a.size 0 5)).size + 1))).drew.cell? ⟨w.heap.size, j, none⟩ = some (.int .u8 b.toNat) := fun j b hj => by
      have hlt := (List.getElem?_eq_some_iff.1 hj).1
      rw [List.getElem?_eq_getElem hlt] at hj
      have hj := Option.some.inj hj
      refine (World.cell?_alloc_mark w _ _ _ j).trans ?_
      rw [bytesRow_at a _ j (by simpa using hlt)]
      rw [← hj]
      rfl
    have frz0 : ∀ j : Nat, j < a.size → (w.alloc (Obj.cells (bytesRow a (grownCap w a.size 0 5)) 5 ((bytesRow a (grownCap w a.size 0 5)).size, (bytesRow a (grownCap w a.size 0 5)).size + 1))).drew.frozen? ⟨w.heap.size, j, none⟩ = false := fun j hj => by
      refine (World.frozen?_alloc_mark w _ _ _ _ j).trans ?_
      have : (bytesRow a (grownCap w a.size 0 5)).size ≥ a.size := by unfold bytesRow; simp
      rw [decide_eq_false (by omega), Bool.false_and]
    have bel0 : Below w.heap.size w (w.alloc (Obj.cells (bytesRow a (grownCap w a.size 0 5)) 5 ((bytesRow a (grownCap w a.size 0 5)).size, (bytesRow a (grownCap w a.size 0 5)).size + 1))).drew := ((Below.refl _ w).alloc (Nat.le_refl _) _).drew
    generalize (w.alloc (Obj.cells (bytesRow a (grownCap w a.size 0 5)) 5 ((bytesRow a (grownCap w a.size 0 5)).size, (bytesRow a (grownCap w a.size 0 5)).size + 1))).drew = w0 at *
    generalize hcap : grownCap w a.size 0 5 = cap at *
    clear hcv hcap hib htb c
    go_loopw [8] (fun n wr => ∃ k : Nat, k ≤ 4 ∧ n = .int .i64 k ∧ (∀ (j : Nat) (b : UInt8), (spoil a.data.toList i t k)[j]? = some b → wr.cell? ⟨w.heap.size, j, none⟩ = some (.int .u8 b.toNat)) ∧
      (∀ j : Nat, j < a.size → wr.frozen? ⟨w.heap.size, j, none⟩ = false) ∧ Below w.heap.size w wr) (fun n _ => 4 - (intOf n).toNat)
    case atStart => exact ⟨0, by omega, rfl, cell0, frz0, bel0⟩
    case round =>
      obtain ⟨k, hk, rfl, hc, hf, hB⟩ := hrel
      have HC := Lib.hid hc
      have HF := Lib.hid hf
      have HB := Lib.hid hB
      clear cell0 frz0 bel0 hc hf hB
      by_cases hlt : k < 4
      · have hlen : i + k < a.data.toList.length := by simp; omega
        have hget := Lib.hid ((spoil_far a.data.toList i t k (i + k) (by omega)).trans (List.getElem?_eq_getElem hlen))
        have hd := Lib.hid (show a.data.toList.getD (i + k) 0 = a.data.toList[i + k] by rw [List.getD_eq_getElem?_getD, List.getElem?_eq_getElem hlen]; rfl)
        generalize a.data.toList[i + k] = b at *
        have hc := HC.out (i + k) b hget.out
        have hf := HF.out (i + k) (by omega)
        have hx := shr_nth b t k
        go_wp2
        go_region
        go_wp2
        go_roundw
        case rel =>
          refine ⟨k + 1, by omega, by go_num, ?_, ?_, ?_⟩
          · intro j b' hj
            have e : bits BinOp.xor IntKind.u8 (b.toNat : Int) ((t : Int) / 2 ^ (8 * k) % 256) = ((b ^^^ nth t k).toNat : Int) := by
              rw [← hx]
              congr 1
            show (wr.setCell ⟨w.heap.size, i + k, none⟩ (Value.int IntKind.u8 (bits BinOp.xor IntKind.u8 (b.toNat : Int) ((t : Int) / 2 ^ (8 * k) % 256)))).cell? ⟨w.heap.size, j, none⟩ = _
            rw [e]
            have hj2 : ((spoil a.data.toList i t k).set (i + k) (a.data.toList.getD (i + k) 0 ^^^ nth t k))[j]? = some b' := hj
            rw [hd.out, List.getElem?_set] at hj2
            by_cases q : i + k = j
            · subst q
              rw [if_pos rfl, if_pos (by rw [spoil_length]; exact hlen)] at hj2
              obtain rfl := Option.some.inj hj2
              exact World.cell?_setCell_same _ _ _ hc
            · rw [if_neg q] at hj2
              exact (World.cell?_setCell_other _ _ _ _ (fun e => q (congrArg Addr.off e))).trans (HC.out j b' hj2)
          · intro j hj
            show (wr.setCell ⟨w.heap.size, i + k, none⟩ _).frozen? ⟨w.heap.size, j, none⟩ = _
            rw [World.frozen?_setCell]
            exact HF.out j hj
          · exact (HB.out.setCell (by simp) _).drew
        case measure => simp [intOf]; omega
      · obtain rfl : k = 4 := by omega
        have HL : Hid (a.size = (spoil a.data.toList i t 4).length) := by show a.size = _; rw [spoil_length]; simp
        have hne := Lib.hid (spoil_sum a i t c1 c2 c3)
        have hsz := HB.out.size
        have hgl : 0 < a.size → w.heap.size < wr.heap.size := fun h => by
          have h2 := HC.out 0 _ (List.getElem?_eq_getElem (by rw [← HL.out]; exact h))
          unfold World.cell? at h2
          split at h2
          · rename_i hb; exact (Array.getElem?_eq_some_iff.1 hb).1
          · exact absurd h2 (by simp)
        go_wp2_with fail
        refine (sum_calls a _ (by omega)).mono ?_
        rintro e w1 ⟨rfl, hB1⟩
        have hback : (convert 56 9 (.slice (some ⟨w.heap.size, 0, none⟩) a.size cap)).run Try.prog w1 = .ok (.string ⟨(spoil a.data.toList i t 4).toArray⟩) w1 := by
          rw [HL.out]
          exact run_convert_bytes_back (P := Try.prog) w1 56 9 5 ⟨w.heap.size, 0, none⟩ cap (spoil a.data.toList i t 4) Try.underlying56 Try.underlying5 Try.underlying9 (fun j hj => by
            rw [show (Addr.add ⟨w.heap.size, 0, none⟩ j) = ⟨w.heap.size, j, none⟩ from by simp only [Addr.add]; split <;> simp_all]
            rw [hB1.cell (p := ⟨w.heap.size, j, none⟩) (hgl (by rw [HL.out]; omega))]
            exact HC.out j _ (List.getElem?_eq_getElem hj))
        have hs2 : (⟨(spoil a.data.toList i t 4).toArray⟩ : ByteArray).size = a.size := by rw [HL.out]; rfl
        have HBB := Lib.hid (HB.out.trans (hB1.mono hsz))
        have hsz1 := HBB.out.size
        clear hB1
        generalize (⟨(spoil a.data.toList i t 4).toArray⟩ : ByteArray) = z at *
        have hx0 := Crc.sum_lt a
        have hy0 := Crc.sum_lt z
        have hne2 : ((Crc.sum a : Nat) : Int) ≠ ((Crc.sum z : Nat) : Int) := by intro h; exact hne.out (by omega)
        go_wp2_with fail
        clear HL
        refine (sum_calls z _ (by omega)).mono ?_
        rintro e w2 ⟨rfl, hB2⟩
        have HB2 := Lib.hid (HBB.out.trans (hB2.mono hsz1))
        have hsz2 := HB2.out.size
        clear hB2
        go_wp2_with fail
        refine (known_calls _).mono ?_
        rintro e w3 ⟨rfl, hB3⟩
        have HB3 := Lib.hid (HB2.out.trans (hB3.mono hsz2))
        clear hB3
        go_wp2
        go_ret
        exact ⟨congrArg (fun b => Ending.returned (.bool b)) (bne_iff_ne.2 hne2), HB3.out⟩
/-- In the print's form. -/
def postbaglaw10_FrameTells.f (a : ByteArray) (i t : Int) : Option Bool :=
  if a.size ≤ 140737488351232 ∧ (Lit.int .i64 i).wf = true ∧ (Lit.int .i64 t).wf = true then some true else none
theorem postbaglaw10_FrameTells.calls (a : ByteArray) (i t : Int) (r : Bool) (w : World) (h : postbaglaw10_FrameTells.f a i t = some r) :
    Calls Try.prog 10 #[.string a, .int .i64 i, .int .i64 t] w fun e w' => e = .returned (.bool r) ∧ Below w.heap.size w w' := by
  unfold postbaglaw10_FrameTells.f at h
  split at h
  · rename_i hg
    injection h with h
    subst h
    exact tells_calls a i t w hg.1 hg.2.1 hg.2.2
  · exact absurd h (by simp)
end Go.Proofs.Ytcndhgpaoihblaa.Fr
