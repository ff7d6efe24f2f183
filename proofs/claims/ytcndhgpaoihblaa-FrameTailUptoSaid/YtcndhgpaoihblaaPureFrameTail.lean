/- FrameTail: its pure statement. -/
import Derived.Test.YtcndhgpaoihblaaFr12
import Derived.Test.YtcndhgpaoihblaaCutF
namespace Go.Proofs.Ytcndhgpaoihblaa.Fr
open Go.RowKit Go.Proofs.YtcndhgpaoihblaaW.PrintWords
open Plain Crc
def shift (d : Nat) (x : Seen) : Seen := ⟨x.kind, x.number, x.at_ + d, x.body, x.next + d⟩
theorem scanT_shift (t : List UInt8) (i d : Nat) (p : Option Nat) : scanT t (i + d) p = (scanT t i p).map (shift d) := by
  match h : frameL t with
  | none => rw [scanT_none h, scanT_none h]; rfl
  | some (k, n, m) =>
    have hl := (frameL_some h).2.1
    rw [scanT_some h, scanT_some h]
    by_cases c : p = none ∨ p.map (· + 1) = some n
    · rw [if_pos c, if_pos c]
      have ih := scanT_shift (t.drop (18 + m)) (i + 18 + m) d (some n)
      rw [show i + d + 18 + m = i + 18 + m + d from by omega, ih]
      rw [List.map_cons]
      rfl
    · rw [if_neg c, if_neg c]; rfl
termination_by t.length
decreasing_by
  have := (frameL_some h).2.1
  rw [List.length_drop]
  omega
theorem scanT_prev (t : List UInt8) (i q : Nat) : scanT t i (some q) = match scanT t i none with | [] => [] | x :: r => if x.number = q + 1 then x :: r else [] := by
  cases h : frameL t with
  | none => rw [scanT_none h, scanT_none h]
  | some z =>
    obtain ⟨k, n, m⟩ := z
    rw [scanT_some h, scanT_some h, if_pos (c := none = none ∨ _) (.inl rfl)]
    by_cases c : n = q + 1
    · rw [if_pos (.inr (by simp [c]))]
      simp only [c, if_true]
    · rw [if_neg (by simp; omega)]
      simp only [c, if_false]
theorem scanT_next (t : List UInt8) (i : Nat) (p : Option Nat) : ∀ x ∈ scanT t i p, x.next ≤ i + t.length ∧ x.at_ ≤ x.next := by
  match h : frameL t with
  | none => rw [scanT_none h]; simp
  | some (k, n, m) =>
    have hl := (frameL_some h).2.1
    rw [scanT_some h]
    split
    · have ih := scanT_next (t.drop (18 + m)) (i + 18 + m) (some n)
      intro x hx
      rcases List.mem_cons.1 hx with rfl | hx
      · constructor <;> simp only <;> omega
      · have := ih x hx
        rw [List.length_drop] at this
        omega
    · simp
termination_by t.length
decreasing_by
  have := (frameL_some h).2.1
  rw [List.length_drop]
  omega
theorem tail_l0 (s : ByteArray) (M : List Seen) (hs : s.size ≤ 4195304) (hM : ∀ x ∈ M, x.next ≤ 4195304 ∧ x.at_ ≤ x.next) (hl : M.length ≤ 4195304) (d : Nat) : ∀ j : Nat, j + d = M.length →
    Ev (fun k => postbaglaw10_FrameTail.l0 k s ((M.map (shift s.size)).map s49) ((M.map (shift s.size)).map nx) (M.map s49) (M.map nx) (j : Int)) true := by
  induction d with
  | zero =>
    intro j hj
    refine Ev.step (f := fun _ => some true) (fun k => ?_) (Ev.now _)
    simp only [postbaglaw10_FrameTail.l0]
    rw [if_neg (by rw [List.length_map, List.length_map]; omega), known_some]
    rfl
  | succ d ih =>
    intro j hj
    have hx := List.getElem?_eq_getElem (l := M) (i := j) (by omega)
    have hmem := hM M[j] (List.getElem_mem (by omega))
    generalize M[j] = x at hx hmem
    have r0 : rd_T49 ((M.map (shift s.size)).map s49) (j : Int) = ⟨(x.kind : Int), (x.number : Int), ((x.at_ + s.size : Nat) : Int), ⟨x.body.toArray⟩⟩ := by
      unfold rd_T49
      rw [Int.toNat_natCast, List.getD_eq_getElem?_getD, List.getElem?_map, List.getElem?_map, hx]
      rfl
    have r1 : rd_T49 (M.map s49) (j : Int) = ⟨(x.kind : Int), (x.number : Int), (x.at_ : Int), ⟨x.body.toArray⟩⟩ := by
      unfold rd_T49
      rw [Int.toNat_natCast, List.getD_eq_getElem?_getD, List.getElem?_map, hx]
      rfl
    have r2 : rd ((M.map (shift s.size)).map nx) (j : Int) = ((x.next + s.size : Nat) : Int) := by
      unfold rd
      rw [Int.toNat_natCast, List.getD_eq_getElem?_getD, List.getElem?_map, List.getElem?_map, hx]
      rfl
    have r3 : rd (M.map nx) (j : Int) = (x.next : Int) := by
      unfold rd
      rw [Int.toNat_natCast, List.getD_eq_getElem?_getD, List.getElem?_map, hx]
      rfl
    have e1 : ((M.map (shift s.size)).map s49).length = M.length := by rw [List.length_map, List.length_map]
    have e2 : ((M.map (shift s.size)).map nx).length = M.length := by rw [List.length_map, List.length_map]
    have e3 : (M.map s49).length = M.length := by rw [List.length_map]
    have e4 : (M.map nx).length = M.length := by rw [List.length_map]
    have w1 := Lib.hid (w64 (x := (x.at_ : Int) + (s.size : Int)) (by omega) (by omega))
    have w2 := Lib.hid (w64 (x := (x.next : Int) + (s.size : Int)) (by omega) (by omega))
    have w3 := Lib.hid (w64 (x := (j : Int) + 1) (by omega) (by omega))
    refine Ev.step (fun k => ?_) (ih (j + 1) (by omega))
    simp only [postbaglaw10_FrameTail.l0]
    have c1 : (j : Int) < (M.length : Int) := by omega
    have c2 : (0 : Int) ≤ (j : Int) := by omega
    have c5 : ((x.next + s.size : Nat) : Int) = (x.next : Int) + (s.size : Int) := by omega
    have c6 : ((x.at_ + s.size : Nat) : Int) = (x.at_ : Int) + (s.size : Int) := by omega
    rw [e1, e2, e3, e4, if_pos c1, if_pos c2, if_pos c1, r0, r1, r2, r3, w1.out, w2.out, w3.out, c6, beq_self_eq_true, beq_self_eq_true, beq_self_eq_true, beq_self_eq_true]
    rw [if_neg (by decide), if_pos c1, if_pos c1, if_pos c5, Int.natCast_succ]
/-- What goes on: frames whose first has the number that is due (or any). -/
def goesOn (fs : Frs) (q : Nat) : List Seen → List Seen
  | [] => []
  | x :: r => if fs = [] ∨ x.number = q then x :: r else []
/-- What a scan behind all frames sees of what is behind them. -/
theorem behind (fs : Frs) (n : Nat) (T : List UInt8) : scanT T (endL 0 fs) (if fs = [] then none else some (n + fs.length - 1)) =
    (goesOn fs (n + fs.length) (scanT T 0 none)).map (shift (endL 0 fs)) := by
  have h := scanT_shift T 0 (endL 0 fs) none
  rw [Nat.zero_add] at h
  by_cases c : fs = []
  · rw [if_pos c, h]
    cases scanT T 0 none with
    | nil => rfl
    | cons x r => simp only [goesOn, c, true_or, if_true]
  · have hl : 0 < fs.length := List.length_pos_iff.2 c
    rw [if_neg c, scanT_prev, h]
    cases scanT T 0 none with
    | nil => rfl
    | cons x r =>
      simp only [List.map_cons, shift, goesOn, c, false_or]
      rw [show n + fs.length - 1 + 1 = n + fs.length from by omega]
      by_cases c2 : x.number = n + fs.length
      · rw [if_pos c2, if_pos c2]; rfl
      · rw [if_neg c2, if_neg c2]; rfl
end Go.Proofs.Ytcndhgpaoihblaa.Fr
namespace Go.Proofs.Ytcndhgpaoihblaa.Pure
open Go.RowKit Go.Proofs.YtcndhgpaoihblaaW.PrintWords
open Fr Plain Crc
theorem tail_j3 (s : ByteArray) (M : List Seen) (hs : s.size ≤ 4195304) (hM : ∀ x ∈ M, x.next ≤ 4195304 ∧ x.at_ ≤ x.next) (hl : M.length ≤ 4195304) (l15 : List Int) (h15 : l15 = M.map nx ∨ M = []) :
    Ev (fun k => postbaglaw10_FrameTail.j3 k s ((M.map (shift s.size)).map s49) ((M.map (shift s.size)).map nx) (M.map s49) l15) true := by
  have e1 : ((((M.map (shift s.size)).map s49).length : Nat) : Int) = (((M.map s49).length : Nat) : Int) := by simp
  rcases h15 with h15 | h15
  · subst h15
    refine Ev.step (fun k => ?_) (tail_l0 s M hs hM hl M.length 0 (Nat.zero_add _))
    simp only [postbaglaw10_FrameTail.j3]
    rw [if_pos e1]
    rfl
  · subst h15
    refine Ev.step (f := fun k => postbaglaw10_FrameTail.l0 k s [] [] [] l15 0) (fun k => ?_) ?_
    · simp only [postbaglaw10_FrameTail.j3]
      rfl
    · refine Ev.step (f := fun _ => some true) (fun k => ?_) (Ev.now _)
      simp only [postbaglaw10_FrameTail.l0]
      rfl
theorem FrameTail (first : Int) (bodies : List ByteArray) (kinds : List Int) (t : ByteArray) (h0 : (Lit.int .i64 first).wf = true) (_h1 : (∀ x ∈ bodies, x.size ≤ 140737488351232) ∧ bodies.length * Try.prog.bytesOf 9 ≤ 140737488351232) (_h2 : (∀ x ∈ kinds, (Lit.int .i64 x).wf = true) ∧ kinds.length * Try.prog.bytesOf 3 ≤ 140737488351232) (_h3 : t.size ≤ 140737488351232) : ∃ k, postbaglaw10_FrameTail.f k first bodies kinds t = some true := by
  have hf := (Lit.wf_int_iff .i64 first).1 h0
  simp only [show IntKind.i64.min = -9223372036854775808 from rfl, show IntKind.i64.max = 9223372036854775807 from rfl] at hf
  obtain ⟨s, ends, ok, hrow, hok⟩ := row_f first bodies kinds hf.1 hf.2
  refine Ev.rounds ?_
  unfold postbaglaw10_FrameTail.f
  refine Ev.bind hrow ?_
  have out : Ev (fun k => postbaglaw10_FrameTail.j0 k first bodies t s ends true) true :=
    Ev.step (f := fun _ => some true) (fun k => by simp only [postbaglaw10_FrameTail.j0, if_true]; rfl) (Ev.now _)
  cases ok with
  | false => exact Ev.congr (fun k => by rw [if_neg (by simp)]) out
  | true =>
    obtain ⟨fs, h⟩ := hok rfl
    refine Ev.congr (fun k => if_pos rfl) ?_
    by_cases c0 : (t.size : Int) > 4195304
    · rw [decide_eq_true c0]
      exact out
    · rw [decide_eq_false c0]
      have hsz := h.size
      have hE := RowOk.endL h
      have helen : ends.length = fs.length := by rw [h.ends, List.length_map, endsL_length]
      have hdata : s.data.toList = rowL first.toNat fs := by rw [h.bytes]
      -- what both scans tell
      have hA : scanT (s ++ t).data.toList 0 none = seenL first.toNat 0 fs ++ (goesOn fs (first.toNat + fs.length) (scanT t.data.toList 0 none)).map (shift s.size) := by
        rw [ByteArray.data_append, Array.toList_append, hdata, scan_row fs _ _ _ _ h.ok (.inl rfl), behind, hE]
      have e2 := told_f t (by omega)
      have hnext := scanT_next t.data.toList 0 none
      have hlenM := scanT_length t.data.toList 0 none
      rw [toList_length] at hnext hlenM
      generalize scanT t.data.toList 0 none = M at *
      obtain ⟨M', hM'⟩ : ∃ M' : List Seen, M' = goesOn fs (first.toNat + fs.length) M := ⟨_, rfl⟩
      rw [← hM'] at hA
      have hsub : M' = M ∨ M' = [] := by
        rw [hM']
        cases M with
        | nil => exact .inl rfl
        | cons x r => simp only [goesOn]; split; exact .inl rfl; exact .inr rfl
      have e1 : postbaglaw10_told.f (s ++ t) = some ((seenL first.toNat 0 fs ++ M'.map (shift s.size)).map s49, (seenL first.toNat 0 fs ++ M'.map (shift s.size)).map nx) := by
        rw [told_f _ (by rw [ByteArray.size_append]; omega), hA]
      have hlenA : (((seenL first.toNat 0 fs ++ M'.map (shift s.size)).map s49).length : Int) = (fs.length : Int) + (M'.length : Int) := by
        rw [List.length_map, List.length_append, seenL_length, List.length_map]; omega
      have hlenB : (((seenL first.toNat 0 fs ++ M'.map (shift s.size)).map nx).length : Int) = (fs.length : Int) + (M'.length : Int) := by
        rw [List.length_map, List.length_append, seenL_length, List.length_map]; omega
      have tkA : ((seenL first.toNat 0 fs ++ M'.map (shift s.size)).map s49).take fs.length = (seenL first.toNat 0 (fs.take fs.length)).map s49 := by
        rw [List.take_length, List.map_append, List.take_append_of_le_length (by rw [List.length_map, seenL_length]; omega), List.take_of_length_le (by rw [List.length_map, seenL_length]; omega)]
      have tkB : ((seenL first.toNat 0 fs ++ M'.map (shift s.size)).map nx).take fs.length = (seenL first.toNat 0 (fs.take fs.length)).map nx := by
        rw [List.take_length, List.map_append, List.take_append_of_le_length (by rw [List.length_map, seenL_length]; omega), List.take_of_length_le (by rw [List.length_map, seenL_length]; omega)]
      have dpA : ((seenL first.toNat 0 fs ++ M'.map (shift s.size)).map s49).drop fs.length = (M'.map (shift s.size)).map s49 := by
        rw [List.map_append, List.drop_append, List.drop_eq_nil_of_le (by rw [List.length_map, seenL_length]; omega), List.nil_append, List.length_map, seenL_length, Nat.sub_self, List.drop_zero]
      have dpB : ((seenL first.toNat 0 fs ++ M'.map (shift s.size)).map nx).drop fs.length = (M'.map (shift s.size)).map nx := by
        rw [List.map_append, List.drop_append, List.drop_eq_nil_of_le (by rw [List.length_map, seenL_length]; omega), List.nil_append, List.length_map, seenL_length, Nat.sub_self, List.drop_zero]
      have hw := whole_f h fs.length (Nat.le_refl _)
      rw [← tkA, ← tkB] at hw
      generalize hLA : (seenL first.toNat 0 fs ++ M'.map (shift s.size)).map s49 = LA at *
      generalize hLB : (seenL first.toNat 0 fs ++ M'.map (shift s.size)).map nx = LB at *
      have q0 : s.size + t.size ≤ 9223372036854775807 := by omega
      have q1 : ¬ (LA.length : Int) < (ends.length : Int) := by rw [hlenA, helen]; omega
      have q2 : (0 : Int) ≤ (ends.length : Int) := by omega
      have q3 : (ends.length : Int) ≤ (LA.length : Int) := by rw [hlenA, helen]; omega
      have q4 : (ends.length : Int) ≤ (LB.length : Int) := by rw [hlenB, helen]; omega
      refine Ev.step (f := fun k => (postbaglaw10_whole.f k (LA.take fs.length) (LB.take fs.length) first bodies ends ((fs.length : Nat) : Int)).bind fun t274 => postbaglaw10_FrameTail.j1 k first s LA LB (M.map s49) (M.map nx) ((fs.length : Nat) : Int) (!t274)) (fun k => ?_) (Ev.bind hw ?_)
      · simp only [postbaglaw10_FrameTail.j0, Bool.false_eq_true, if_false]
        rw [if_pos q0, e1, Option.bind_some, e2, Option.bind_some, if_neg q1, if_pos q2, if_pos q3, if_pos q4, Int.toNat_natCast, helen]
      · have hMn : ∀ x ∈ M', x.next ≤ 4195304 ∧ x.at_ ≤ x.next := fun x hx => by
          rcases hsub with e | e
          · rw [e] at hx; have := hnext x hx; omega
          · rw [e] at hx; exact absurd hx (by simp)
        have hMl : M'.length ≤ 4195304 := by
          rcases hsub with e | e
          · rw [e]; omega
          · rw [e]; simp
        have hj3 := tail_j3 s M' hsz hMn hMl (M.map nx) (by rcases hsub with e | e; exact .inl (by rw [e]); exact .inr e)
        have r0 : (0 : Int) ≤ ((fs.length : Nat) : Int) := by omega
        have r1 : ((fs.length : Nat) : Int) ≤ (LA.length : Int) := by rw [hlenA]; omega
        have r2 : ((fs.length : Nat) : Int) ≤ (LB.length : Int) := by rw [hlenB]; omega
        have hmain : ∀ b : Bool, (b = true → M' = []) → (b = false → M' = M) → Ev (fun k => postbaglaw10_FrameTail.j2 k s ((M'.map (shift s.size)).map s49) ((M'.map (shift s.size)).map nx) (M.map s49) (M.map nx) b) true := fun b hb0 hb1 => by
          cases b with
          | true =>
            have e := hb0 rfl
            rw [e] at hj3
            refine Ev.step (fun k => ?_) hj3
            simp only [postbaglaw10_FrameTail.j2, if_true, e]
            rfl
          | false =>
            have e := hb1 rfl
            rw [e] at hj3
            refine Ev.step (fun k => ?_) hj3
            simp only [postbaglaw10_FrameTail.j2, Bool.false_eq_true, if_false, e]
        have step : ∀ b : Bool, (∀ k, postbaglaw10_FrameTail.j1 (k + 1) first s LA LB (M.map s49) (M.map nx) ((fs.length : Nat) : Int) false = postbaglaw10_FrameTail.j2 k s ((M'.map (shift s.size)).map s49) ((M'.map (shift s.size)).map nx) (M.map s49) (M.map nx) b) → (b = true → M' = []) → (b = false → M' = M) →
            Ev (fun k => postbaglaw10_FrameTail.j1 k first s LA LB (M.map s49) (M.map nx) ((fs.length : Nat) : Int) (!true)) true := fun b h1 h2 h3 => Ev.step (f := fun k => postbaglaw10_FrameTail.j2 k s ((M'.map (shift s.size)).map s49) ((M'.map (shift s.size)).map nx) (M.map s49) (M.map nx) b) h1 (hmain b h2 h3)
        by_cases z1 : fs = []
        · refine step false (fun k => ?_) (fun h => absurd h (by simp)) (fun _ => ?_)
          · have z2 : ¬ ((fs.length : Nat) : Int) > 0 := by rw [z1]; decide
            simp only [postbaglaw10_FrameTail.j1, Bool.false_eq_true, if_false]
            rw [if_pos r0, if_pos r1, Option.bind_some, if_pos r2, Option.bind_some, if_neg z2, Int.toNat_natCast, dpA, dpB]
          · rw [hM', z1]
            cases M with
            | nil => rfl
            | cons x r => simp only [goesOn, true_or, if_true]
        · have z2 : ((fs.length : Nat) : Int) > 0 := by have := List.length_pos_iff.2 z1; omega
          have hp := h.pos z1
          cases M with
          | nil =>
            refine step false (fun k => ?_) (fun h => absurd h (by simp)) (fun _ => by rw [hM']; rfl)
            simp only [postbaglaw10_FrameTail.j1, Bool.false_eq_true, if_false]
            rw [if_pos r0, if_pos r1, Option.bind_some, if_pos r2, Option.bind_some, if_pos z2, if_neg (by simp), Int.toNat_natCast, dpA, dpB]
          | cons x r =>
            have w1 : wrap64 (first + ((fs.length : Nat) : Int)) = first + ((fs.length : Nat) : Int) := w64 (by omega) (by omega)
            refine step ((x.number : Int) != first + ((fs.length : Nat) : Int)) (fun k => ?_) (fun hb => ?_) (fun hb => ?_)
            · have z3 : ((((x :: r).map s49).length : Nat) : Int) > 0 := by rw [List.length_map, List.length_cons]; omega
              have r3 : rd_T49 ((x :: r).map s49) 0 = s49 x := rfl
              simp only [postbaglaw10_FrameTail.j1, Bool.false_eq_true, if_false]
              rw [if_pos r0, if_pos r1, Option.bind_some, if_pos r2, Option.bind_some, if_pos z2, if_pos z3, if_pos z3, Int.toNat_natCast, dpA, dpB, r3, w1]
              rfl
            · have hne := bne_iff_ne.1 hb
              rw [hM']
              exact if_neg (by rintro (q | q); exact z1 q; exact hne (by omega))
            · have he := bne_eq_false_iff_eq.1 hb
              rw [hM']
              exact if_pos (.inr (by omega))
end Go.Proofs.Ytcndhgpaoihblaa.Pure
