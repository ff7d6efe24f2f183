/- The pure statement of FrameSums: the printed law answers true for every list of texts within the reach. -/
import Derived.Test.YtcndhgpaoihblaaSumF
import Derived.Test.YtcndhgpaoihblaaFr4
namespace Go.Proofs.Ytcndhgpaoihblaa.Pure
open Go.RowKit Go.Proofs.Ytcndhgpaoihblaa.Fr Go.Proofs.YtcndhgpaoihblaaW.PrintWords

theorem turn_f (k n : Nat) (hk : k < 2 * n) (hn : n ≤ 1000) : ∃ t : Nat, t < n ∧ postbaglaw10_turn.f (k : Int) (n : Int) = some (t : Int) := by
  unfold postbaglaw10_turn.f
  by_cases h : k < n
  · exact ⟨k, h, by rw [if_pos (by omega)]⟩
  · refine ⟨2 * n - 1 - k, by omega, ?_⟩
    rw [if_neg (by omega), w64 (x := 2 * (n : Int)) (by omega) (by omega), w64 (x := 2 * (n : Int) - 1) (by omega) (by omega), w64 (by omega) (by omega)]
    congr 1
    omega
theorem rdOf_mem (l : List ByteArray) (t : Nat) (h : t < l.length) : rdOf ByteArray.empty l (t : Int) ∈ l := by
  unfold rdOf
  rw [Int.toNat_natCast, List.getD_eq_getElem?_getD, List.getElem?_eq_getElem h]
  exact List.getElem_mem h
theorem sums_l1 (l : List ByteArray) (hl : l.length ≤ 40) (hs : ∀ x ∈ l, x.size ≤ 4611686018427387904) (d : Nat) : ∀ i : Nat, i + d = 2 * l.length → Ev (fun k => postbaglaw10_FrameSums.l1 k l (i : Int)) true := by
  induction d with
  | zero =>
    intro i hi
    refine Ev.step (f := fun _ => some true) (fun k => ?_) (Ev.now _)
    simp only [postbaglaw10_FrameSums.l1]
    rw [w64 (by omega) (by omega), if_neg (by omega)]
    rfl
  | succ d ih =>
    intro i hi
    obtain ⟨t, ht, he⟩ := turn_f i l.length (by omega) (by omega)
    have hm := rdOf_mem l t ht
    have h1 := sum_f (rdOf ByteArray.empty l (t : Int)) (Nat.le_trans (hs _ hm) (by decide))
    have h2 := refsum_f (rdOf ByteArray.empty l (t : Int)) (hs _ hm)
    refine Ev.step (f := fun k => (postbagref10_Sum.f k (rdOf ByteArray.empty l (t : Int))).bind fun t145 => if ((Plain.sumL (rdOf ByteArray.empty l (t : Int)).data.toList : Nat) : Int) = t145 then postbaglaw10_FrameSums.l1 k l ((i + 1 : Nat) : Int) else some false) (fun k => ?_) ?_
    · simp only [postbaglaw10_FrameSums.l1]
      rw [w64 (x := 2 * (l.length : Int)) (by omega) (by omega), if_pos (by omega), he, Option.bind_some, if_pos (by omega), if_pos (by omega), h1, Option.bind_some, w64 (x := (i : Int) + 1) (by omega) (by omega)]
      rfl
    · refine Ev.bind h2 ?_
      refine Ev.congr (f := fun k => postbaglaw10_FrameSums.l1 k l ((i + 1 : Nat) : Int)) (fun k => ?_) (ih (i + 1) (by omega))
      rw [if_pos rfl]
theorem sums_l0 (l : List ByteArray) (hs : ∀ x ∈ l, x.size ≤ 140737488351232) (hln : l.length ≤ 4611686018427387904) (d : Nat) : ∀ (i n : Nat), i ≤ 40 → n ≤ 4195304 → i + d = l.length → Ev (fun k => postbaglaw10_FrameSums.l0 k l (n : Int) (i : Int)) true := by
  induction d with
  | zero =>
    intro i n hi hn he
    refine Ev.step (f := fun k => postbaglaw10_FrameSums.l1 k l ((0 : Nat) : Int)) (fun k => ?_) (sums_l1 l (by omega) (fun x hx => Nat.le_trans (hs x hx) (by decide)) _ 0 (Nat.zero_add _))
    simp only [postbaglaw10_FrameSums.l0]
    rw [if_neg (by omega)]
    rfl
  | succ d ih =>
    intro i n hi hn he
    have hm := hs _ (rdOf_mem l i (by omega))
    by_cases c1 : (n : Int) + ((rdOf ByteArray.empty l (i : Int)).size : Int) > 4195304
    · refine Ev.step (f := fun _ => some true) (fun k => ?_) (Ev.now _)
      simp only [postbaglaw10_FrameSums.l0]
      rw [if_pos (by omega), if_pos (by omega), w64 (by omega) (by omega), if_pos c1]
    · by_cases c2 : i ≥ 40
      · refine Ev.step (f := fun _ => some true) (fun k => ?_) (Ev.now _)
        simp only [postbaglaw10_FrameSums.l0]
        rw [if_pos (by omega), if_pos (by omega), w64 (by omega) (by omega), if_neg c1, if_pos (by omega)]
      · refine Ev.step (f := fun k => postbaglaw10_FrameSums.l0 k l ((n + (rdOf ByteArray.empty l (i : Int)).size : Nat) : Int) ((i + 1 : Nat) : Int)) (fun k => ?_) (ih (i + 1) _ (by omega) (by omega) (by omega))
        simp only [postbaglaw10_FrameSums.l0]
        rw [if_pos (by omega), if_pos (by omega), w64 (x := (n : Int) + _) (by omega) (by omega), if_neg c1, if_neg (by omega), w64 (x := (i : Int) + 1) (by omega) (by omega)]
        rfl
theorem FrameSums (l : List ByteArray) (h : (∀ x ∈ l, x.size ≤ 140737488351232) ∧ l.length * Try.prog.bytesOf 9 ≤ 140737488351232) : ∃ k, postbaglaw10_FrameSums.f k l = some true := by
  have hb : Try.prog.bytesOf 9 = 16 := by kernel_rfl
  have h2 := h.2
  rw [hb] at h2
  exact (sums_l0 l h.1 (by omega) l.length 0 0 (by omega) (by omega) (Nat.zero_add _)).rounds
end Go.Proofs.Ytcndhgpaoihblaa.Pure
