/- The pure statement of SpanCounts: Least has just the numbers of the list; so many, and no others; and of a list Of its Least is all of it that may be a number. -/
import Derived.Test.YtidcchopmbodkaaDoorPPostbaglaw4SpanCounts
import Derived.Test.YtidcchopmbodkaaDoorTb
import Derived.Test.YtidcchopmbodkaaDoorTk
namespace Go.Proofs.YtidcchopmbodkaaDoor.Sp
open Go.RowKit Go.Proofs.YtidcchopmbodkaaDoorW.PrintWords Go.Proofs.YtidcchopmbodkaaDoorW.PrintLast Go.Proofs.YtidcchopmbodkaaDoorW.PrintMore
open Canon

theorem known_f (k : Nat) (hk : 50 ≤ k) : postbaglaw4_known.f k = some true := at_rounds postbaglaw4_known.mono hk known_50
theorem counts_l1 (l : List Int) (A : List S28) (x4 x5 : List Int) (i : Int) (n : Int) (hl : x4.length ≤ 8000000000000) (d : Nat) : ∀ (j k : Nat) (b : Bool), j + d = x4.length →
    postbaglaw4_SpanCounts.l1 (k + (d + 1)) l A x4 x5 i n b (j : Int) = if b = true ∨ n ∈ x4.drop j then postbaglaw4_SpanCounts.l0 k l A x4 x5 (wrap64 (i + 1)) else postbaglaw4_SpanCounts.l0 k l A (x4 ++ [n]) x5 (wrap64 (i + 1)) := by
  induction d with
  | zero =>
    intro j k b hj
    rw [Nat.zero_add]
    simp only [postbaglaw4_SpanCounts.l1]
    rw [if_neg (by omega), List.drop_of_length_le (by omega)]
    by_cases hb : b = true
    · rw [if_pos hb, if_pos (Or.inl hb)]
    · rw [if_neg hb, if_pos (by omega), if_neg (by simp [hb])]
  | succ d ih =>
    intro j k b hj
    have ih' := fun b => ih (j + 1) k b (by omega)
    rw [show k + (d + 1 + 1) = (k + (d + 1)) + 1 from by omega]
    generalize k + (d + 1) = K at ih' ⊢
    simp only [postbaglaw4_SpanCounts.l1]
    rw [if_pos (by omega), w64n j (by omega), List.drop_eq_getElem_cons (show j < x4.length by omega)]
    by_cases hb : b = true
    · rw [if_pos hb, ih' true, if_pos (Or.inl rfl), if_pos (Or.inl hb)]
    · rw [if_neg hb, if_pos (by omega), rd_at x4 j (by omega), ih' _]
      generalize x4[j] = y
      by_cases hy : y = n
      · rw [if_pos (Or.inl (by simp [hy])), if_pos (Or.inr (by simp [hy]))]
      · by_cases hm : n ∈ x4.drop (j + 1)
        · rw [if_pos (Or.inr hm), if_pos (Or.inr (by simp [hm]))]
        · rw [if_neg, if_neg]
          · rintro (h | h)
            · exact hb h
            · rcases List.mem_cons.1 h with h | h
              · exact hy h.symm
              · exact hm h
          · rintro (h | h)
            · exact hy (by simpa using h)
            · exact hm h
theorem counts_l2 (l : List Int) (A : List S28) (x4 x5 : List Int) (hA : A.length ≤ 400) (hf : Form A) (d : Nat) : ∀ (j k : Nat) (s : Int), j + d = A.length → s = sumOf (A.take j) →
    postbaglaw4_SpanCounts.l2 (k + (d + 1)) l A x4 x5 s (j : Int) = postbaglaw4_SpanCounts.l2 (k + 1) l A x4 x5 (sumOf A) (A.length : Int) := by
  induction d with
  | zero =>
    intro j k s hj hs
    have e : j = A.length := by omega
    subst e
    rw [List.take_length] at hs
    rw [hs, Nat.zero_add]
  | succ d ih =>
    intro j k s hj hs
    rw [show k + (d + 1 + 1) = (k + (d + 1)) + 1 from by omega]
    have ih' := fun s => ih (j + 1) k s (by omega)
    generalize k + (d + 1) = K at ih' ⊢
    generalize hR : postbaglaw4_SpanCounts.l2 (k + 1) l A x4 x5 (sumOf A) (A.length : Int) = R at ih' ⊢
    have hjl : j < A.length := by omega
    simp only [postbaglaw4_SpanCounts.l2]
    rw [if_pos (by omega), if_pos (by omega), w64n j (by omega), rd28_at A j hjl]
    refine ih' _ ?_
    have ht : A.take (j + 1) = A.take j ++ [A[j]] := List.take_succ_eq_append_getElem hjl
    have e2 : sumOf (A.take (j + 1)) = sumOf (A.take j) + (A[j].f1 - A[j].f0 + 1) := by rw [ht]; unfold sumOf; rw [List.map_append, List.sum_append]; simp only [List.map_cons, List.map_nil, List.sum_cons, List.sum_nil]; omega
    have hx := hf.ends A[j] (List.getElem_mem hjl)
    have hx2 := hf.le A[j] (List.getElem_mem hjl)
    have hb : ∀ B : List S28, (∀ x ∈ B, 1 ≤ x.f0 ∧ x.f0 ≤ x.f1 ∧ x.f1 ≤ 4294967295) → 0 ≤ sumOf B ∧ sumOf B ≤ 4294967295 * B.length := by
      intro B
      induction B with
      | nil => intro _; simp [sumOf]
      | cons y B ihB =>
        intro h
        have h1 := h y (by simp)
        have h2 := ihB fun z hz => h z (by simp [hz])
        have e3 : sumOf (y :: B) = (y.f1 - y.f0 + 1) + sumOf B := by simp [sumOf]
        rw [e3, List.length_cons]
        omega
    have hs2 := hb (A.take j) fun x hx => by
      have hm := List.mem_of_mem_take hx
      exact ⟨(hf.ends x hm).1, hf.le x hm, (hf.ends x hm).2⟩
    rw [List.length_take, Nat.min_eq_left (by omega)] at hs2
    rw [e2, ← hs]
    rw [← hs] at hs2
    generalize A[j].f1 = p at *
    generalize A[j].f0 = q at *
    have w1 : wrap64 (s + p) = s + p := by unfold wrap64; omega
    have w2 : wrap64 (s + p - q) = s + p - q := by unfold wrap64; omega
    have w3 : wrap64 (s + p - q + 1) = s + p - q + 1 := by unfold wrap64; omega
    rw [w1, w2, w3]
    omega
theorem counts_end (l : List Int) (x4 : List Int) (hl : l.length ≤ 400) (hnd : x4.Nodup) (hm : ∀ n, n ∈ x4 ↔ n ∈ l ∧ okN n = true) (k : Nat) (hk : 1000 ≤ k) :
    postbaglaw4_SpanCounts.l2 (k + 1) l (leastA l) x4 (l.filter okN) (sumOf (leastA l)) ((leastA l).length : Int) = some true := by
  obtain ⟨h1, h2, h3⟩ := least_form l
  simp only [postbaglaw4_SpanCounts.l2]
  rw [if_neg (by omega), if_pos (sum_count _ h1 x4 hnd fun n => by rw [hm, h2])]
  rw [known_f k (by omega)]
  by_cases h0 : (l.length : Int) > 0
  · obtain ⟨e1, e2, e3⟩ := last_rd l (by omega) (by omega)
    rw [if_pos h0, if_pos e2, if_pos e3, e1]
    by_cases hg : lastN l ≥ 1
    · rw [if_pos hg, of_f _ l (by omega) k (by omega), Option.bind_some]
      have e : ofA (leastA l) l = l.filter okN := by
        unfold ofA
        refine List.filter_congr fun n hn => ?_
        rw [Bool.eq_iff_iff]
        by_cases hn1 : 1 ≤ n
        · rw [has_form h1 n _ hg hn1, h2]
          exact ⟨fun h => h.2, fun h => ⟨hn, h⟩⟩
        · constructor
          · intro h
            unfold hasB at h
            rw [if_pos (Or.inr (by omega))] at h
            cases h
          · intro h
            simp [okN] at h
            omega
      rw [e, alike_f _ _ (by have := List.length_filter_le okN l; omega) k (by have := List.length_filter_le okN l; omega), decide_eq_true rfl]
      rfl
    · rw [if_neg hg]; rfl
  · rw [if_neg h0]; rfl
theorem counts_l0 (l : List Int) (hl : l.length ≤ 400) (d : Nat) : ∀ (i k : Nat) (x4 : List Int), i + d = l.length → x4.length ≤ i → x4.Nodup → (∀ n, n ∈ x4 ↔ n ∈ l.take i ∧ okN n = true) → 410 * d + 2000 ≤ k →
    postbaglaw4_SpanCounts.l0 k l (leastA l) x4 ((l.take i).filter okN) (i : Int) = some true := by
  obtain ⟨h1, h2, h3⟩ := least_form l
  induction d with
  | zero =>
    intro i k x4 hi hx hnd hm hk
    obtain ⟨k, rfl⟩ : ∃ j, k = j + 1 := ⟨k - 1, by omega⟩
    simp only [postbaglaw4_SpanCounts.l0]
    rw [if_neg (by omega), List.take_of_length_le (by omega)]
    rw [List.take_of_length_le (by omega)] at hm
    have := counts_l2 l (leastA l) x4 (l.filter okN) (by omega) h1 (leastA l).length 0 (k - ((leastA l).length + 1)) 0 (by omega) (by simp [sumOf])
    rw [show k - ((leastA l).length + 1) + ((leastA l).length + 1) = k from by omega] at this
    refine Eq.trans this ?_
    exact counts_end l x4 hl hnd hm _ (by omega)
  | succ d ih =>
    intro i k x4 hi hx hnd hm hk
    obtain ⟨k, rfl⟩ : ∃ j, k = j + 2 := ⟨k - 2, by omega⟩
    have hil : i < l.length := by omega
    have ht : l.take (i + 1) = l.take i ++ [l[i]] := List.take_succ_eq_append_getElem hil
    have hmem : l[i] ∈ l := List.getElem_mem hil
    simp only [postbaglaw4_SpanCounts.l0]
    rw [if_pos (by omega), if_pos (by omega), rd_at l i hil]
    generalize l[i] = n at *
    have hj : (if n ≥ 1 then postbaglaw4_SpanCounts.j1 (k + 1) l (leastA l) x4 ((l.take i).filter okN) (i : Int) n (decide (n ≤ 4294967295)) else postbaglaw4_SpanCounts.j1 (k + 1) l (leastA l) x4 ((l.take i).filter okN) (i : Int) n false) = postbaglaw4_SpanCounts.j1 (k + 1) l (leastA l) x4 ((l.take i).filter okN) (i : Int) n (okN n) := by
      unfold okN
      by_cases h : n ≥ 1
      · rw [if_pos h, decide_eq_true (show 1 ≤ n from h), Bool.true_and]
      · rw [if_neg h, decide_eq_false (show ¬ 1 ≤ n from h), Bool.false_and]
    rw [hj]
    simp only [postbaglaw4_SpanCounts.j1]
    have hh : hasB (leastA l) n 1 = okN n := by
      rw [Bool.eq_iff_iff]
      by_cases hn1 : 1 ≤ n
      · rw [has_form h1 n 1 (by omega) hn1, h2]
        exact ⟨fun h => h.2, fun h => ⟨hmem, h⟩⟩
      · constructor
        · intro h
          unfold hasB at h
          rw [if_pos (Or.inr (by omega))] at h
          cases h
        · intro h
          simp [okN] at h
          omega
    rw [has_f, Option.bind_some, hh, if_neg (by simp), w64n i (by omega)]
    by_cases ho : okN n = true
    · rw [if_pos ho, if_pos (by have := List.length_filter_le okN (l.take i); rw [List.length_take] at this; omega)]
      have hcl := counts_l1 l (leastA l) x4 ((l.take i).filter okN ++ [n]) (i : Int) n (by omega) x4.length 0 (k - (x4.length + 1)) false (by omega)
      rw [show k - (x4.length + 1) + (x4.length + 1) = k from by omega, List.drop_zero, w64n i (by omega)] at hcl
      have hf5 : (l.take i).filter okN ++ [n] = (l.take (i + 1)).filter okN := by rw [ht, List.filter_append]; simp [ho]
      refine Eq.trans hcl ?_
      rw [hf5]
      by_cases hin : n ∈ x4
      · rw [if_pos (Or.inr hin)]
        refine ih (i + 1) _ x4 (by omega) (by omega) hnd (fun m => ?_) (by omega)
        rw [hm, ht, List.mem_append, List.mem_singleton]
        constructor
        · rintro ⟨a, b⟩; exact ⟨Or.inl a, b⟩
        · rintro ⟨a | a, b⟩
          · exact ⟨a, b⟩
          · subst a; exact (hm m).1 hin
      · rw [if_neg (by simp [hin])]
        refine ih (i + 1) _ (x4 ++ [n]) (by omega) (by simp; omega) ?_ (fun m => ?_) (by omega)
        · rw [List.nodup_append]
          exact ⟨hnd, by simp, fun a ha b hb e => hin (by rw [List.mem_singleton] at hb; rw [← hb, ← e]; exact ha)⟩
        · rw [List.mem_append, List.mem_singleton, hm, ht, List.mem_append, List.mem_singleton]
          constructor
          · rintro (⟨a, b⟩ | a)
            · exact ⟨Or.inl a, b⟩
            · subst a; exact ⟨Or.inr rfl, ho⟩
          · rintro ⟨a | a, b⟩
            · exact Or.inl ⟨a, b⟩
            · exact Or.inr a
    · rw [if_neg ho]
      have hf5 : (l.take i).filter okN = (l.take (i + 1)).filter okN := by rw [ht, List.filter_append]; simp [ho]
      rw [hf5]
      refine ih (i + 1) _ x4 (by omega) (by omega) hnd (fun m => ?_) (by omega)
      rw [hm, ht, List.mem_append, List.mem_singleton]
      constructor
      · rintro ⟨a, b⟩; exact ⟨Or.inl a, b⟩
      · rintro ⟨a | a, b⟩
        · exact ⟨a, b⟩
        · subst a; exact absurd b ho
theorem counts_true (l : List Int) : postbaglaw4_SpanCounts.f 200000 l = some true := by
  unfold postbaglaw4_SpanCounts.f
  by_cases hl : (l.length : Int) > 400
  · rw [if_pos hl]
  · obtain ⟨h1, h2, h3⟩ := least_form l
    rw [if_neg hl, least_f l (by omega) _ (by omega), Option.bind_some, rises_f _ (by omega) h1.rises h1.ends _ (by omega), Option.bind_some, if_pos rfl]
    exact counts_l0 l (by omega) l.length 0 200000 [] (by omega) (by simp) List.Pairwise.nil (fun n => by simp) (by omega)
end Go.Proofs.YtidcchopmbodkaaDoor.Sp
namespace Go.Proofs.YtidcchopmbodkaaDoor.Pure
open Go.Proofs.YtidcchopmbodkaaDoor.Sp
theorem SpanCounts (l : List Int) {P : Prop} (_ : P) : ∃ k, postbaglaw4_SpanCounts.f k l = some true := ⟨_, counts_true l⟩
end Go.Proofs.YtidcchopmbodkaaDoor.Pure
