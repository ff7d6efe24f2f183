/- The pure statement of FrameEncodes: the printed law answers true for every list of questions within the reach. -/
import Derived.Test.YtcndhgpaoihblaaRefF
import Derived.Test.YtcndhgpaoihblaaFr6
namespace Go.Proofs.Ytcndhgpaoihblaa.Pure
open Go.RowKit Go.Proofs.Ytcndhgpaoihblaa.Fr Go.Proofs.YtcndhgpaoihblaaW.PrintWords

theorem turn_e (k n : Nat) (hk : k < 2 * n) (hn : n ≤ 1000) : ∃ t : Nat, t < n ∧ postbaglaw10_turn.f (k : Int) (n : Int) = some (t : Int) := by
  unfold postbaglaw10_turn.f
  by_cases h : k < n
  · exact ⟨k, h, by rw [if_pos (by omega)]⟩
  · refine ⟨2 * n - 1 - k, by omega, ?_⟩
    rw [if_neg (by omega), w64 (x := 2 * (n : Int)) (by omega) (by omega), w64 (x := 2 * (n : Int) - 1) (by omega) (by omega), w64 (by omega) (by omega)]
    congr 1
    omega
/-- A body is told, and is never longer than what may come. -/
theorem body_l0 (a b : Int) (c : ByteArray) (t e : Int) (d : Nat) : ∀ (s : ByteArray) (i : Nat), i + d ≤ 60 → s.size ≤ 4195304 → (s.size = 0 ∨ 2097152 < s.size * 2 ^ d) →
    ∃ r : ByteArray, r.size ≤ 4195304 ∧ Ev (fun k => postbaglaw10_body.l0 k s (i : Int) a b c t e) r := by
  induction d with
  | zero =>
    intro s i hi hs hz
    refine ⟨s, hs, ?_⟩
    refine Ev.step (f := fun k => postbaglaw10_body.j1 k s (i : Int) false a b c t e) (fun k => ?_) (Ev.step (f := fun _ => some s) (fun k => ?_) (Ev.now _))
    · simp only [postbaglaw10_body.l0]
      by_cases h1 : (i : Int) < t
      · rw [if_pos h1]
        by_cases h2 : (s.size : Int) ≤ 2097152
        · rw [if_pos h2]
          rw [Nat.pow_zero, Nat.mul_one] at hz
          rw [decide_eq_false (by omega)]
        · rw [if_neg h2]
      · rw [if_neg h1]
    · simp only [postbaglaw10_body.j1, Bool.false_eq_true, if_false]
  | succ d ih =>
    intro s i hi hs hz
    by_cases hgo : (i : Int) < t ∧ s.size ≤ 2097152 ∧ 0 < s.size
    · obtain ⟨g1, g2, g3⟩ := hgo
      have hz' : 2097152 < s.size * 2 ^ d * 2 := by
        rcases hz with hz | hz
        · omega
        · rw [Nat.pow_succ] at hz; rw [Nat.mul_assoc]; exact hz
      have hj : ∀ k, postbaglaw10_body.l0 (k + 1) s (i : Int) a b c t e = postbaglaw10_body.j1 k s (i : Int) true a b c t e := fun k => by
        simp only [postbaglaw10_body.l0]
        rw [if_pos g1, if_pos (by omega), decide_eq_true (by omega)]
      have hsz : (s ++ s).size = s.size + s.size := ByteArray.size_append
      by_cases hcut : s.size + s.size > 2097153
      · have hx : ((s ++ s).extract 0 2097153).size = 2097153 := by rw [ByteArray.size_extract, hsz]; omega
        obtain ⟨r, hr, he⟩ := ih ((s ++ s).extract 0 2097153) (i + 1) (by omega) (by omega) (.inr (by
          rw [hx]
          have : 1 ≤ 2 ^ d := Nat.one_le_two_pow
          calc 2097152 < 2097153 * 1 := by decide
            _ ≤ 2097153 * 2 ^ d := Nat.mul_le_mul_left _ this))
        refine ⟨r, hr, Ev.step hj (Ev.step (fun k => ?_) he)⟩
        simp only [postbaglaw10_body.j1, if_true]
        rw [if_pos (by omega), if_pos (by omega), if_pos (by omega), if_pos (by omega), w64 (by omega) (by omega)]
        rfl
      · obtain ⟨r, hr, he⟩ := ih (s ++ s) (i + 1) (by omega) (by omega) (.inr (by
          rw [hsz, ← Nat.two_mul, Nat.mul_comm 2, Nat.mul_assoc, Nat.mul_comm 2, ← Nat.mul_assoc]
          exact hz'))
        refine ⟨r, hr, Ev.step hj (Ev.step (fun k => ?_) he)⟩
        simp only [postbaglaw10_body.j1, if_true]
        rw [if_pos (by omega), if_neg (by omega), w64 (by omega) (by omega)]
        rfl
    · refine ⟨s, hs, ?_⟩
      refine Ev.step (f := fun k => postbaglaw10_body.j1 k s (i : Int) false a b c t e) (fun k => ?_) (Ev.step (f := fun _ => some s) (fun k => ?_) (Ev.now _))
      · simp only [postbaglaw10_body.l0]
        by_cases h1 : (i : Int) < t
        · rw [if_pos h1]
          by_cases h2 : (s.size : Int) ≤ 2097152
          · have h3 : ¬ 0 < s.size := fun h3 => hgo ⟨h1, by omega, h3⟩
            rw [if_pos h2, decide_eq_false (by omega)]
          · rw [if_neg h2]
        · rw [if_neg h1]
      · simp only [postbaglaw10_body.j1, Bool.false_eq_true, if_false]
theorem body_f (a b : Int) (c : ByteArray) (t e : Int) (hc : c.size ≤ 4195304) : ∃ r : ByteArray, r.size ≤ 4195304 ∧ Ev (fun k => postbaglaw10_body.f k a b c t e) r := by
  obtain ⟨r, h1, h2⟩ := body_l0 a b c t e 22 c 1 (by omega) hc (by
    rcases Nat.eq_zero_or_pos c.size with h | h
    · exact .inl h
    · exact .inr (by have : (2 : Nat) ^ 22 = 4194304 := rfl; rw [this]; omega))
  exact ⟨r, h1, h2⟩
theorem encAns_snd (k n : Int) (s : ByteArray) : postbaglaw10_num.f (encAns k n s).2 = some (encAns k n s).2 := rfl
theorem size_eq (n : Int) : ∃ r, frame_Size.f n = some r ∧ postbagref10_Size.f n = some r := by
  unfold frame_Size.f postbagref10_Size.f
  by_cases h : n < 0
  · exact ⟨0, by rw [if_pos h], by rw [if_pos h]⟩
  · by_cases h2 : n > 2097152
    · exact ⟨0, by rw [if_neg h, if_pos h2], by rw [if_neg h, if_pos h2]⟩
    · exact ⟨_, by rw [if_neg h, if_neg h2], by rw [if_neg h, if_neg h2]⟩
theorem encs_l1 (l : List S29) (hl : l.length ≤ 40) (hs : ∀ t : Nat, t < l.length → (rd_T29 l (t : Int)).f2.size ≤ 4195304) (d : Nat) : ∀ i : Nat, i + d = 2 * l.length → Ev (fun k => postbaglaw10_FrameEncodes.l1 k l (i : Int)) true := by
  induction d with
  | zero =>
    intro i hi
    refine Ev.step (f := fun _ => some true) (fun k => ?_) (Ev.now _)
    simp only [postbaglaw10_FrameEncodes.l1]
    rw [w64 (by omega) (by omega), if_neg (by omega)]
    rfl
  | succ d ih =>
    intro i hi
    obtain ⟨t, ht, he⟩ := turn_e i l.length (by omega) (by omega)
    have hm := hs t ht
    generalize hx : rd_T29 l (t : Int) = x at *
    obtain ⟨r, hr, hb⟩ := body_f x.f0 x.f1 x.f2 x.f3 x.f4 hm
    have h2 := ref_encode x.f0 x.f1 r
    obtain ⟨z1, e1, e2⟩ := size_eq x.f4
    obtain ⟨z2, e3, e4⟩ := size_eq (r.size : Int)
    refine Ev.step (f := fun k => (postbaglaw10_body.f k x.f0 x.f1 x.f2 x.f3 x.f4).bind fun t167 => ((postbagref10_Encode.f k x.f0 x.f1 t167).bind fun bt168 => ((frame_Encode.f x.f0 x.f1 t167).bind fun bt170 => ((postbaglaw10_num.f bt170.2).bind fun t172 => (if t172 = bt168.2 then (if bt170.1.toList = bt168.1.toList then ((frame_Size.f x.f4).bind fun t173 => ((postbagref10_Size.f x.f4).bind fun t174 => (if t173 = t174 then ((frame_Size.f (t167.size : Int)).bind fun t175 => ((postbagref10_Size.f (t167.size : Int)).bind fun t176 => (if t175 = t176 then (postbaglaw10_FrameEncodes.l1 k l ((i + 1 : Nat) : Int)) else (some false)))) else (some false)))) else (some false)) else (some false)))))) (fun k => ?_) ?_
    · simp only [postbaglaw10_FrameEncodes.l1]
      rw [w64 (x := 2 * (l.length : Int)) (by omega) (by omega), if_pos (by omega), he, Option.bind_some, if_pos (by omega), if_pos (by omega), hx, w64 (x := (i : Int) + 1) (by omega) (by omega)]
      rfl
    · refine Ev.bind hb (Ev.bind h2 ?_)
      refine Ev.congr (f := fun k => postbaglaw10_FrameEncodes.l1 k l ((i + 1 : Nat) : Int)) (fun k => ?_) (ih (i + 1) (by omega))
      rw [encode_f, Option.bind_some, encAns_snd, Option.bind_some, if_pos rfl, if_pos rfl, e1, e2, Option.bind_some, Option.bind_some, if_pos rfl, e3, e4, Option.bind_some, Option.bind_some, if_pos rfl]
theorem encs_l0 (l : List S29) (hb : ∀ t : Nat, t < l.length → (rd_T29 l (t : Int)).f2.size ≤ 140737488351232) (hln : l.length ≤ 40) (d : Nat) : ∀ (i n : Nat), n ≤ 4195304 → i + d = l.length → (∀ t : Nat, t < i → (rd_T29 l (t : Int)).f2.size ≤ 4195304) → Ev (fun k => postbaglaw10_FrameEncodes.l0 k l (n : Int) (i : Int)) true := by
  induction d with
  | zero =>
    intro i n hn he hs
    refine Ev.step (f := fun k => postbaglaw10_FrameEncodes.l1 k l ((0 : Nat) : Int)) (fun k => ?_) (encs_l1 l hln (fun t ht => hs t (by omega)) _ 0 (Nat.zero_add _))
    simp only [postbaglaw10_FrameEncodes.l0]
    rw [if_neg (by omega)]
    rfl
  | succ d ih =>
    intro i n hn he hs
    have hm := hb i (by omega)
    by_cases c1 : (rd_T29 l (i : Int)).f2.size > 4195304
    · refine Ev.step (f := fun _ => some true) (fun k => ?_) (Ev.now _)
      simp only [postbaglaw10_FrameEncodes.l0]
      rw [if_pos (by omega), if_pos (by omega), if_pos (by omega)]
    · have hnext : ∀ t : Nat, t < i + 1 → (rd_T29 l (t : Int)).f2.size ≤ 4195304 := fun t ht => by
        by_cases e : t = i
        · subst e; omega
        · exact hs t (by omega)
      generalize hx : rd_T29 l (i : Int) = x at *
      obtain ⟨r, hr, hbd⟩ := body_f x.f0 x.f1 x.f2 x.f3 x.f4 (by omega)
      refine Ev.step (f := fun k => (postbaglaw10_body.f k x.f0 x.f1 x.f2 x.f3 x.f4).bind fun t162 => (if (wrap64 ((n : Int) + (t162.size : Int))) > 4195304 then (some true) else (postbaglaw10_FrameEncodes.l0 k l (wrap64 ((n : Int) + (t162.size : Int))) ((i + 1 : Nat) : Int)))) (fun k => ?_) ?_
      · simp only [postbaglaw10_FrameEncodes.l0]
        rw [if_pos (by omega), if_pos (by omega), hx, if_neg (by omega), w64 (x := (i : Int) + 1) (by omega) (by omega)]
        rfl
      · refine Ev.bind hbd ?_
        rw [w64 (x := (n : Int) + (r.size : Int)) (by omega) (by omega)]
        by_cases c2 : (n : Int) + (r.size : Int) > 4195304
        · exact Ev.congr (fun k => by rw [if_pos c2]) (Ev.now _)
        · exact Ev.congr (fun k => by rw [if_neg c2]; rfl) (ih (i + 1) (n + r.size) (by omega) (by omega) hnext)
theorem FrameEncodes (l : List S29) (h : (∀ x ∈ l, ((Lit.int .i64 x.f0).wf = true ∧ (Lit.int .i64 x.f1).wf = true ∧ x.f2.size ≤ 140737488351232 ∧ (Lit.int .i64 x.f3).wf = true ∧ (Lit.int .i64 x.f4).wf = true)) ∧ l.length * Try.prog.bytesOf 29 ≤ 140737488351232) : ∃ k, postbaglaw10_FrameEncodes.f k l = some true := by
  unfold postbaglaw10_FrameEncodes.f
  by_cases c : (l.length : Int) > 40
  · exact ⟨0, by rw [if_pos c]⟩
  · have hb : ∀ t : Nat, t < l.length → (rd_T29 l (t : Int)).f2.size ≤ 140737488351232 := fun t ht => by
      have hm : rd_T29 l (t : Int) ∈ l := by
        unfold rd_T29
        rw [Int.toNat_natCast, List.getD_eq_getElem?_getD, List.getElem?_eq_getElem ht]
        exact List.getElem_mem ht
      exact (h.1 _ hm).2.2.1
    obtain ⟨k, hk⟩ := (encs_l0 l hb (by omega) l.length 0 0 (by omega) (Nat.zero_add _) (fun t ht => absurd ht (by omega))).rounds
    exact ⟨k, by rw [if_neg c]; exact hk⟩
end Go.Proofs.Ytcndhgpaoihblaa.Pure
