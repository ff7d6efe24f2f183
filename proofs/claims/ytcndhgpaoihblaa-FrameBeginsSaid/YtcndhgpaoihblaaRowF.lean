/- What the printed functions postbaglaw10.row and whole come to, on plain rows of frames. -/
import Derived.Test.YtcndhgpaoihblaaFr9
import Derived.Test.YtcndhgpaoihblaaFr8
import Derived.Test.YtcndhgpaoihblaaLine
import Derived.Test.YtcndhgpaoihblaaStr
import Derived.Test.YtcndhgpaoihblaaEncF
import Derived.Test.YtcndhgpaoihblaaTold
namespace Go.Proofs.Ytcndhgpaoihblaa.Fr
open Go.RowKit Go.Proofs.YtcndhgpaoihblaaW.PrintWords
open Plain Crc

abbrev Frs := List (Nat × List UInt8)
def endsL : Nat → Frs → List Nat
  | _, [] => []
  | i, (_, b) :: r => (i + 18 + b.length) :: endsL (i + 18 + b.length) r
theorem endsL_length (fs : Frs) : ∀ i, (endsL i fs).length = fs.length := by
  induction fs with
  | nil => intro i; rfl
  | cons x r ih => intro i; obtain ⟨k, b⟩ := x; simp only [endsL, List.length_cons, ih]
theorem rowL_snoc (fs : Frs) (k : Nat) (b : List UInt8) : ∀ n, rowL n (fs ++ [(k, b)]) = rowL n fs ++ encL k (n + fs.length) b := by
  induction fs with
  | nil => intro n; simp [rowL]
  | cons x r ih =>
    intro n; obtain ⟨k', b'⟩ := x
    simp only [List.cons_append, rowL, ih, List.length_cons, List.append_assoc]
    rw [show n + 1 + r.length = n + (r.length + 1) from by omega]
theorem okL_snoc (fs : Frs) (k : Nat) (b : List UInt8) : ∀ n, okL n fs → fits k (n + fs.length) b.length = true → okL n (fs ++ [(k, b)]) := by
  induction fs with
  | nil => intro n _ h; exact ⟨h, trivial⟩
  | cons x r ih =>
    intro n h1 h2; obtain ⟨k', b'⟩ := x
    refine ⟨h1.1, ih (n + 1) h1.2 ?_⟩
    rw [List.length_cons] at h2
    rw [show n + 1 + r.length = n + (r.length + 1) from by omega]
    exact h2
theorem okL_take (fs : Frs) : ∀ (n j : Nat), okL n fs → okL n (fs.take j) := by
  induction fs with
  | nil => intro n j _; simp [okL]
  | cons x r ih =>
    intro n j h; obtain ⟨k', b'⟩ := x
    cases j with
    | zero => trivial
    | succ j => exact ⟨h.1, ih (n + 1) j h.2⟩
theorem okL_drop (fs : Frs) : ∀ (n j : Nat), okL n fs → okL (n + j) (fs.drop j) := by
  induction fs with
  | nil => intro n j _; simp [okL]
  | cons x r ih =>
    intro n j h; obtain ⟨k', b'⟩ := x
    cases j with
    | zero => exact h
    | succ j => have := ih (n + 1) j h.2; rw [show n + 1 + j = n + (j + 1) from by omega] at this; exact this
theorem rowL_split (fs : Frs) : ∀ (n j : Nat), rowL n fs = rowL n (fs.take j) ++ rowL (n + j) (fs.drop j) := by
  induction fs with
  | nil => intro n j; simp [rowL]
  | cons x r ih =>
    intro n j; obtain ⟨k', b'⟩ := x
    cases j with
    | zero => simp [rowL]
    | succ j => simp only [List.take_succ_cons, List.drop_succ_cons, rowL, List.append_assoc]; rw [ih (n + 1) j, show n + 1 + j = n + (j + 1) from by omega]
theorem endL_snoc (fs : Frs) (x : Nat × List UInt8) : ∀ i, endL i (fs ++ [x]) = endL i fs + 18 + x.2.length := by
  induction fs with
  | nil => intro i; obtain ⟨k, b⟩ := x; rfl
  | cons y r ih => intro i; obtain ⟨k', b'⟩ := y; simp only [List.cons_append, endL, ih]
theorem endsL_snoc (fs : Frs) (x : Nat × List UInt8) : ∀ i, endsL i (fs ++ [x]) = endsL i fs ++ [endL i fs + 18 + x.2.length] := by
  induction fs with
  | nil => intro i; obtain ⟨k, b⟩ := x; rfl
  | cons y r ih => intro i; obtain ⟨k', b'⟩ := y; simp only [List.cons_append, endsL, endL, ih]
theorem endsL_get (fs : Frs) : ∀ (i j : Nat), (endsL i fs)[j]? = fs[j]?.map (fun x => endL i (fs.take j) + 18 + x.2.length) := by
  induction fs with
  | nil => intro i j; simp [endsL]
  | cons x r ih =>
    intro i j; obtain ⟨k, b⟩ := x
    cases j with
    | zero => simp [endsL, endL]
    | succ j => simp only [endsL, List.getElem?_cons_succ, ih, List.take_succ_cons, endL]
theorem seenL_get (fs : Frs) : ∀ (n i j : Nat), (seenL n i fs)[j]? = fs[j]?.map (fun x => ⟨x.1, n + j, endL i (fs.take j), x.2, endL i (fs.take j) + 18 + x.2.length⟩) := by
  induction fs with
  | nil => intro n i j; simp [seenL]
  | cons x r ih =>
    intro n i j; obtain ⟨k, b⟩ := x
    cases j with
    | zero => simp [seenL, endL]
    | succ j =>
      simp only [seenL, List.getElem?_cons_succ, ih, List.take_succ_cons, endL]
      rw [show n + 1 + j = n + (j + 1) from by omega]
theorem endL_mono (fs : Frs) : ∀ (i j : Nat), endL i (fs.take j) ≤ endL i fs := by
  intro i j
  have h := endL_add fs i 0
  have h2 := endL_add (fs.take j) i 0
  have h3 := congrArg List.length (rowL_split fs 0 j)
  rw [List.length_append] at h3
  omega
/-- What row answers where it says that all is well. -/
structure RowOk (first : Int) (bodies : List ByteArray) (s : ByteArray) (ends : List Int) (fs : Frs) : Prop where
  ok : okL first.toNat fs
  pos : fs ≠ [] → 1 ≤ first ∧ first + fs.length ≤ 4294967295
  bytes : s = ⟨(rowL first.toNat fs).toArray⟩
  ends : ends = (endsL 0 fs).map (fun n : Nat => (n : Int))
  size : s.size ≤ 4195304
  num : fs.length ≤ 12
  le : fs.length ≤ bodies.length
  body : ∀ (j : Nat) x, fs[j]? = some x → bodies[j]? = some ⟨x.2.toArray⟩
theorem RowOk.endL {first : Int} {bodies : List ByteArray} {s : ByteArray} {ends : List Int} {fs : Frs} (h : RowOk first bodies s ends fs) : endL 0 fs = s.size := by
  rw [endL_add fs 0 first.toNat, h.bytes, size_str, Nat.zero_add]
theorem wrap_id {first : Int} (h0 : -9223372036854775808 ≤ first) (h1 : first ≤ 9223372036854775807) (i : Nat) (hi : i < 12) (h : 1 ≤ wrap64 (first + i)) : wrap64 (first + i) = first + i := by
  by_cases c : first + i ≤ 9223372036854775807
  · exact w64 (by omega) c
  · exfalso
    unfold wrap64 at h
    omega
def rowStep (k : Nat) (x0 : Int) (x1 : List ByteArray) (x2 : List Int) (x9 : ByteArray) (x10 : List Int) (x11 : Int) (kd : Int) : Option (ByteArray × List Int × Bool) :=
  (if 0 ≤ x11 then (if x11 < (x1.length : Int) then ((frame_Encode.f kd (wrap64 (x0 + x11)) (rdOf ByteArray.empty x1 x11)).bind fun bt186 => (if bt186.2 = 0 then (if (wrap64 ((x9.size : Int) + (bt186.1.size : Int))) > 4195304 then (some (x9, x10, false)) else (if x9.size + bt186.1.size ≤ 9223372036854775807 then (if x10.length < 17592186044416 then (postbaglaw10_row.l0 k x0 x1 x2 (x9 ++ bt186.1) (x10 ++ [((x9 ++ bt186.1).size : Int)]) (wrap64 (x11 + 1))) else (none)) else (none))) else (some (x9, x10, false)))) else (none)) else (none))
theorem rowStep_ok (k : Nat) (x0 : Int) (x1 : List ByteArray) (x2 : List Int) (x9 : ByteArray) (x10 : List Int) (x11 : Int) (kd : Int) (r : ByteArray) (h0 : 0 ≤ x11) (h1 : x11 < (x1.length : Int)) (he : frame_Encode.f kd (wrap64 (x0 + x11)) (rdOf ByteArray.empty x1 x11) = some (r, 0)) :
    rowStep k x0 x1 x2 x9 x10 x11 kd = if (wrap64 ((x9.size : Int) + (r.size : Int))) > 4195304 then (some (x9, x10, false)) else (if x9.size + r.size ≤ 9223372036854775807 then (if x10.length < 17592186044416 then (postbaglaw10_row.l0 k x0 x1 x2 (x9 ++ r) (x10 ++ [((x9 ++ r).size : Int)]) (wrap64 (x11 + 1))) else (none)) else (none)) := by
  unfold rowStep
  rw [if_pos h0, if_pos h1, he, Option.bind_some]
  exact if_pos rfl
theorem row_j2 (k : Nat) (x0 : Int) (x1 : List ByteArray) (x2 : List Int) (x9 : ByteArray) (x10 : List Int) (x11 x12 : Int) (b : Bool) : postbaglaw10_row.j2 (k + 1) x0 x1 x2 x9 x10 x11 x12 b = rowStep k x0 x1 x2 x9 x10 x11 (if b = true then 2 else x12) := by
  simp only [postbaglaw10_row.j2, rowStep]
  cases b <;> simp only [Bool.false_eq_true, if_false, if_true]
theorem rdOf_get (l : List ByteArray) (i : Nat) (h : i < l.length) : rdOf ByteArray.empty l (i : Int) = l[i] := by
  unfold rdOf
  rw [Int.toNat_natCast, List.getD_eq_getElem?_getD, List.getElem?_eq_getElem h]
  rfl
theorem row_l0 (first : Int) (bodies : List ByteArray) (kinds : List Int) (h0 : -9223372036854775808 ≤ first) (h1 : first ≤ 9223372036854775807) (d : Nat) : ∀ (i : Nat) (s : ByteArray) (ends : List Int) (fs : Frs), i + d = 13 → fs.length = i → RowOk first bodies s ends fs →
    ∃ s' ends' ok, Ev (fun k => postbaglaw10_row.l0 k first bodies kinds s ends (i : Int)) (s', ends', ok) ∧ (ok = true → ∃ fs', RowOk first bodies s' ends' fs') := by
  induction d with
  | zero => intro i s ends fs hi hl h; have := h.num; omega
  | succ d ih =>
    intro i s ends fs hi hl h
    by_cases c : i < bodies.length ∧ i < 12
    · have step : ∃ b : Bool, ∀ k, postbaglaw10_row.l0 (k + 1 + 1 + 1) first bodies kinds s ends (i : Int) = rowStep k first bodies kinds s ends (i : Int) (if b = true then 2 else 1) := by
        by_cases c2 : (i : Int) < (kinds.length : Int)
        · refine ⟨(Int.tmod (rd kinds i) 2) == 0, fun k => ?_⟩
          rw [← row_j2]
          simp only [postbaglaw10_row.l0, postbaglaw10_row.j1]
          rw [if_pos (by omega), decide_eq_true (by omega), if_pos rfl, if_pos c2, if_pos (by omega)]
        · refine ⟨false, fun k => ?_⟩
          rw [← row_j2]
          simp only [postbaglaw10_row.l0, postbaglaw10_row.j1]
          rw [if_pos (by omega), decide_eq_true (by omega), if_pos rfl, if_neg c2]
      obtain ⟨b, hstep⟩ := step
      have hkd : ∃ kd : Nat, (kd = 1 ∨ kd = 2) ∧ (if b = true then (2 : Int) else 1) = kd := by
        cases b
        · exact ⟨1, .inl rfl, rfl⟩
        · exact ⟨2, .inr rfl, rfl⟩
      obtain ⟨kd, hk, hkd⟩ := hkd
      rw [hkd] at hstep
      have hlen : ends.length = i := by rw [h.ends, List.length_map, endsL_length, hl]
      have hsz := h.size
      have lift : ∀ {r : ByteArray × List Int × Bool}, Ev (fun k => rowStep k first bodies kinds s ends (i : Int) (kd : Int)) r → Ev (fun k => postbaglaw10_row.l0 k first bodies kinds s ends (i : Int)) r := fun hr => by
        obtain ⟨K, hK⟩ := hr
        refine ⟨K + 3, fun k hk => ?_⟩
        obtain ⟨q, rfl⟩ : ∃ q, k = q + 1 + 1 + 1 := ⟨k - 3, by omega⟩
        exact (hstep q).trans (hK q (by omega))
      -- the frame
      generalize hbody : bodies[i]'c.1 = body at *
      have hrd := rdOf_get bodies i c.1
      rw [hbody] at hrd
      by_cases c3 : (body.size : Int) > 2097152 ∨ ¬ (1 ≤ wrap64 (first + i) ∧ wrap64 (first + i) < 4294967295)
      · refine ⟨s, ends, false, lift ?_, fun h => absurd h (by simp)⟩
        refine Ev.congr (f := fun _ => some (s, ends, false)) (fun k => ?_) (Ev.now _)
        unfold rowStep
        rw [if_pos (by omega), if_pos (by omega), hrd, encode_f]
        have e : (encAns (kd : Int) (wrap64 (first + i)) body).2 ≠ 0 := by
          unfold encAns
          by_cases c4 : (body.size : Int) > 2097152
          · rw [if_pos c4]; decide
          · rw [if_neg c4, if_neg (by omega), if_pos (by omega)]; decide
        simp only [Option.bind_some, if_neg e]
      · have c5 : ¬ (body.size : Int) > 2097152 := fun h => c3 (.inl h)
        have c6 : 1 ≤ wrap64 (first + i) ∧ wrap64 (first + i) < 4294967295 := Decidable.byContradiction fun h => c3 (.inr h)
        have hw := wrap_id h0 h1 i c.2 c6.1
        rw [hw] at c6
        have hpos : 1 ≤ first := by
          by_cases q : fs = []
          · have : i = 0 := by rw [← hl, q]; rfl
            omega
          · exact (h.pos q).1
        have e : encAns (kd : Int) (wrap64 (first + i)) body = (⟨(encL kd (first.toNat + i) body.data.toList).toArray⟩, 0) := by
          unfold encAns
          rw [hw, if_neg c5, if_neg (by omega), if_neg (by omega), Int.toNat_natCast, show (first + (i : Int)).toNat = first.toNat + i from by omega]
        obtain ⟨X, hX⟩ : ∃ X : ByteArray, (⟨(encL kd (first.toNat + i) body.data.toList).toArray⟩ : ByteArray) = X := ⟨_, rfl⟩
        have hes : X.size = 18 + body.size := by rw [← hX, size_str, encL_length, toList_length]
        have hen : frame_Encode.f (kd : Int) (wrap64 (first + i)) (rdOf ByteArray.empty bodies i) = some (X, 0) := by rw [hrd, encode_f, e, hX]
        have i0 : (0 : Int) ≤ i := by omega
        have i1 : (i : Int) < (bodies.length : Int) := by omega
        by_cases c7 : (s.size : Int) + (X.size : Int) > 4195304
        · refine ⟨s, ends, false, lift ?_, fun h => absurd h (by simp)⟩
          refine Ev.congr (f := fun _ => some (s, ends, false)) (fun k => ?_) (Ev.now _)
          rw [rowStep_ok k first bodies kinds s ends i kd X i0 i1 hen, w64 (by omega) (by omega), if_pos c7]
        · have hcat : s ++ X = ⟨(rowL first.toNat (fs ++ [(kd, body.data.toList)])).toArray⟩ := by
            rw [← hX, h.bytes, app_str, rowL_snoc, hl]
          have hcs : (s ++ X).size = s.size + (18 + body.size) := by rw [ByteArray.size_append, hes]
          obtain ⟨s', ends', ok, hev, hok⟩ := ih (i + 1) (s ++ X) (ends ++ [((s ++ X).size : Int)]) (fs ++ [(kd, body.data.toList)]) (by omega) (by simp [hl])
            ⟨okL_snoc fs kd _ _ h.ok (fits_iff.2 ⟨hk, by omega, by omega, by rw [toList_length]; omega⟩), fun _ => ⟨hpos, by simp; omega⟩, hcat, by
              rw [h.ends, endsL_snoc, List.map_append, hcs, RowOk.endL h, toList_length]
              simp; omega, by omega, by simp; omega, by simp; omega, fun j x hj => by
              rw [List.getElem?_append] at hj
              by_cases q : j < fs.length
              · rw [if_pos q] at hj; exact h.body j x hj
              · rw [if_neg q] at hj
                have hj0 : j - fs.length = 0 := by
                  have := (List.getElem?_eq_some_iff.1 hj).1
                  simp at this
                  omega
                rw [hj0] at hj
                obtain rfl := (Option.some.inj hj).symm
                rw [show j = i from by omega, List.getElem?_eq_getElem c.1, hbody]⟩
          refine ⟨s', ends', ok, lift ?_, hok⟩
          refine Ev.congr (fun k => ?_) hev
          have q1 : s.size + X.size ≤ 9223372036854775807 := by omega
          have q2 : ends.length < 17592186044416 := by omega
          rw [rowStep_ok k first bodies kinds s ends i kd X i0 i1 hen, w64 (x := (s.size : Int) + (X.size : Int)) (by omega) (by omega), if_neg c7, if_pos q1, if_pos q2, w64 (x := (i : Int) + 1) (by omega) (by omega), Int.natCast_succ]
    · refine ⟨s, ends, true, ?_, fun _ => ⟨fs, h⟩⟩
      have e : Ev (fun k => postbaglaw10_row.j1 k first bodies kinds s ends (i : Int) false) (s, ends, true) :=
        Ev.step (f := fun _ => some (s, ends, true)) (fun k => by simp only [postbaglaw10_row.j1, Bool.false_eq_true, if_false]) (Ev.now _)
      refine Ev.step (f := fun k => postbaglaw10_row.j1 k first bodies kinds s ends (i : Int) false) (fun k => ?_) e
      simp only [postbaglaw10_row.l0]
      by_cases c2 : (i : Int) < (bodies.length : Int)
      · rw [if_pos c2, decide_eq_false (by omega)]
      · rw [if_neg c2]
theorem row_f (first : Int) (bodies : List ByteArray) (kinds : List Int) (h0 : -9223372036854775808 ≤ first) (h1 : first ≤ 9223372036854775807) :
    ∃ s ends ok, Ev (fun k => postbaglaw10_row.f k first bodies kinds) (s, ends, ok) ∧ (ok = true → ∃ fs, RowOk first bodies s ends fs) := by
  unfold postbaglaw10_row.f
  exact row_l0 first bodies kinds h0 h1 13 0 ⟨#[]⟩ [] [] rfl rfl ⟨trivial, fun h => absurd rfl h, rfl, rfl, by decide, by decide, by simp, fun j x hj => by simp at hj⟩
theorem size_f (m : Nat) (h : m ≤ 2097152) : frame_Size.f (m : Int) = some ((m + 18 : Nat) : Int) := by
  unfold frame_Size.f
  rw [if_neg (by omega), if_neg (by omega), w64 (by omega) (by omega)]
  rfl
theorem okL_get (fs : Frs) : ∀ (n j : Nat) x, okL n fs → fs[j]? = some x → fits x.1 (n + j) x.2.length = true := by
  induction fs with
  | nil => intro n j x _ h; simp at h
  | cons y r ih =>
    intro n j x h hj; obtain ⟨k, b⟩ := y
    cases j with
    | zero => obtain rfl := (Option.some.inj hj); exact h.1
    | succ j => have := ih (n + 1) j x h.2 hj; rwa [show n + 1 + j = n + (j + 1) from by omega] at this
theorem endL_le (fs : Frs) (i j : Nat) (x : Nat × List UInt8) (h : fs[j]? = some x) : endL i (fs.take j) + 18 + x.2.length ≤ endL i fs := by
  have hlt := (List.getElem?_eq_some_iff.1 h).1
  have e : fs.take (j + 1) = fs.take j ++ [x] := by rw [List.take_add_one, h]; rfl
  have := endL_mono fs i (j + 1)
  rw [e, endL_snoc] at this
  exact this
theorem whole_l0 {first : Int} {bodies : List ByteArray} {s : ByteArray} {ends : List Int} {fs : Frs} (h : RowOk first bodies s ends fs) (c : Nat) (hc : c ≤ fs.length) (d : Nat) : ∀ i : Nat, i + d = c →
    Ev (fun k => postbaglaw10_whole.l0 k ((seenL first.toNat 0 (fs.take c)).map s49) ((seenL first.toNat 0 (fs.take c)).map nx) first bodies ends c ((endL 0 (fs.take i) : Nat) : Int) i) true := by
  induction d with
  | zero =>
    intro i hi
    refine Ev.step (f := fun _ => some true) (fun k => ?_) (Ev.now _)
    simp only [postbaglaw10_whole.l0]
    rw [if_neg (by omega)]
  | succ d ih =>
    intro i hi
    have hx := List.getElem?_eq_getElem (l := fs) (i := i) (by omega)
    generalize fs[i] = x at hx
    have hfit := fits_iff.1 (okL_get fs _ _ _ h.ok hx)
    have hpos := h.pos (by intro e; rw [e] at hx; simp at hx)
    have hnum := h.num
    have hle := endL_le fs 0 i x hx
    have hE := RowOk.endL h
    have hsz := h.size
    have hslen : (seenL first.toNat 0 (fs.take c)).length = c := by rw [seenL_length, List.length_take]; omega
    have hseen : (seenL first.toNat 0 (fs.take c))[i]? = some ⟨x.1, first.toNat + i, endL 0 (fs.take i), x.2, endL 0 (fs.take i) + 18 + x.2.length⟩ := by
      rw [seenL_get, List.getElem?_take_of_lt (by omega), hx, List.take_take, Nat.min_eq_left (by omega)]
      rfl
    have r0 : rd_T49 ((seenL first.toNat 0 (fs.take c)).map s49) (i : Int) = ⟨(x.1 : Int), ((first.toNat + i : Nat) : Int), ((endL 0 (fs.take i) : Nat) : Int), ⟨x.2.toArray⟩⟩ := by
      unfold rd_T49
      rw [Int.toNat_natCast, List.getD_eq_getElem?_getD, List.getElem?_map, hseen]
      rfl
    have r1 : rd ((seenL first.toNat 0 (fs.take c)).map nx) (i : Int) = ((endL 0 (fs.take i) + 18 + x.2.length : Nat) : Int) := by
      unfold rd
      rw [Int.toNat_natCast, List.getD_eq_getElem?_getD, List.getElem?_map, hseen]
      rfl
    have r4 : rd ends (i : Int) = ((endL 0 (fs.take i) + 18 + x.2.length : Nat) : Int) := by
      unfold rd
      rw [Int.toNat_natCast, List.getD_eq_getElem?_getD, h.ends, List.getElem?_map, endsL_get, hx]
      rfl
    have r3 : rdOf ByteArray.empty bodies (i : Int) = ⟨x.2.toArray⟩ := by
      unfold rdOf
      rw [Int.toNat_natCast, List.getD_eq_getElem?_getD, h.body i x hx]
      rfl
    have hsb : ((⟨x.2.toArray⟩ : ByteArray).size : Int) = (x.2.length : Int) := by rw [size_str]
    have hsz2 := size_f x.2.length hfit.2.2.2
    have hblen : i < bodies.length := by have := h.le; omega
    have helen : ends.length = fs.length := by rw [h.ends, List.length_map, endsL_length]
    have htk : endL 0 (fs.take (i + 1)) = endL 0 (fs.take i) + 18 + x.2.length := by
      have e : fs.take (i + 1) = fs.take i ++ [x] := by rw [List.take_add_one, hx]; rfl
      rw [e, endL_snoc]
    have hn := ih (i + 1) (by omega)
    rw [htk] at hn
    refine Ev.step (fun k => ?_) hn
    simp only [postbaglaw10_whole.l0]
    have w1 := Lib.hid (w64 (x := first + (i : Int)) (by omega) (by omega))
    have w2 := Lib.hid (w64 (x := (i : Int) + 1) (by omega) (by omega))
    have w3 := Lib.hid (w64 (x := ((endL 0 (fs.take i) : Nat) : Int) + ((x.2.length + 18 : Nat) : Int)) (by omega) (by omega))
    have c1 : (i : Int) < (c : Int) := by omega
    have c2 : (0 : Int) ≤ (i : Int) := by omega
    have c3 : (i : Int) < ((((seenL first.toNat 0 (fs.take c)).map s49).length : Nat) : Int) := by rw [List.length_map, hslen]; omega
    have c4 : (i : Int) < ((((seenL first.toNat 0 (fs.take c)).map nx).length : Nat) : Int) := by rw [List.length_map, hslen]; omega
    have c5 : (i : Int) < (bodies.length : Int) := by omega
    have c6 : (i : Int) < (ends.length : Int) := by omega
    have c7 : ((first.toNat + i : Nat) : Int) = first + (i : Int) := by omega
    have c8 : ((endL 0 (fs.take i) + 18 + x.2.length : Nat) : Int) = ((endL 0 (fs.take i) : Nat) : Int) + ((x.2.length + 18 : Nat) : Int) := by omega
    rw [if_pos c1, if_pos c2, if_pos c3, r0, r1, r3, r4, w1.out, w2.out, hsb, hsz2, Option.bind_some, w3.out, if_pos c7, if_pos c5, if_pos rfl, if_pos rfl, if_pos c4, if_pos c6, if_pos rfl, if_pos c8]
    rw [Int.natCast_succ]
theorem whole_f {first : Int} {bodies : List ByteArray} {s : ByteArray} {ends : List Int} {fs : Frs} (h : RowOk first bodies s ends fs) (c : Nat) (hc : c ≤ fs.length) :
    Ev (fun k => postbaglaw10_whole.f k ((seenL first.toNat 0 (fs.take c)).map s49) ((seenL first.toNat 0 (fs.take c)).map nx) first bodies ends c) true := by
  have hslen : (seenL first.toNat 0 (fs.take c)).length = c := by rw [seenL_length, List.length_take]; omega
  unfold postbaglaw10_whole.f
  have e : ((((seenL first.toNat 0 (fs.take c)).map nx).length : Int) != (c : Int)) = false := by rw [List.length_map, hslen]; simp
  rw [List.length_map, hslen, e]
  refine Ev.congr (f := fun k => postbaglaw10_whole.j0 k ((seenL first.toNat 0 (fs.take c)).map s49) ((seenL first.toNat 0 (fs.take c)).map nx) first bodies ends c false) (fun k => if_pos rfl) ?_
  refine Ev.step (fun k => ?_) (whole_l0 h c hc c 0 (by omega))
  simp only [postbaglaw10_whole.j0, Bool.false_eq_true, if_false]
  rfl
end Go.Proofs.Ytcndhgpaoihblaa.Fr
