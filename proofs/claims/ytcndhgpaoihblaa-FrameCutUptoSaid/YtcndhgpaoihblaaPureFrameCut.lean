/- FrameCut: its pure statement. -/
import Derived.Test.YtcndhgpaoihblaaFr10
import Derived.Test.YtcndhgpaoihblaaRowF
import Derived.DataShut
namespace Go.Proofs.Ytcndhgpaoihblaa.Fr
open Go.RowKit Go.Proofs.YtcndhgpaoihblaaW.PrintWords
open Plain Crc
theorem told_f (s : ByteArray) (h : s.size ≤ 1099511627776) : postbaglaw10_told.f s = some ((scanT s.data.toList 0 none).map s49, (scanT s.data.toList 0 none).map nx) := by
  unfold postbaglaw10_told.f
  rw [if_pos h]
theorem cut_scan (fs : Frs) (n j cut : Nat) (hok : okL n fs) (_hj : j ≤ fs.length) (h1 : endL 0 (fs.take j) ≤ cut) (h2 : ∀ x, fs[j]? = some x → cut < endL 0 (fs.take j) + 18 + x.2.length) :
    scanT ((rowL n fs).take cut) 0 none = seenL n 0 (fs.take j) := by
  have hL := endL_add (fs.take j) 0 n
  rw [Nat.zero_add] at hL
  rw [rowL_split fs n j, List.take_append, List.take_of_length_le (by omega), scan_row _ _ _ _ _ (okL_take fs n j hok) (.inl rfl)]
  have e : scanT ((rowL (n + j) (fs.drop j)).take (cut - (rowL n (fs.take j)).length)) (endL 0 (fs.take j)) (if fs.take j = [] then none else some (n + (fs.take j).length - 1)) = [] := by
    cases hx : fs[j]? with
    | none =>
      have : fs.drop j = [] := List.drop_eq_nil_of_le (by have := List.getElem?_eq_none_iff.1 hx; omega)
      rw [this]
      exact scanT_none (by simp [rowL]; rfl) _ _
    | some x =>
      obtain ⟨k, b⟩ := x
      have hlt := (List.getElem?_eq_some_iff.1 hx).1
      have hd : fs.drop j = (k, b) :: fs.drop (j + 1) := by
        rw [List.drop_eq_getElem_cons hlt]
        rw [List.getElem?_eq_getElem hlt] at hx
        rw [Option.some.inj hx]
      have hf := okL_get fs n j _ hok hx
      have := h2 _ hx
      rw [hd]
      exact scanT_none (frameL_cut k (n + j) b _ _ hf (by simp only at this; omega)) _ _
  rw [e, List.append_nil]
theorem ext_data0 (s : ByteArray) (b : Nat) : (s.extract 0 b).data.toList = s.data.toList.take b := by rw [ext_data, List.drop_zero]
theorem known_some : postbaglaw10_known.f = some true := rfl
theorem cut_l0 {first : Int} {bodies : List ByteArray} {s : ByteArray} {ends : List Int} {fs : Frs} (h : RowOk first bodies s ends fs) (cut : Nat) (hc : cut ≤ s.size) (d : Nat) : ∀ j : Nat, j + d = fs.length → endL 0 (fs.take j) ≤ cut →
    Ev (fun k => postbaglaw10_FrameCut.l0 k first bodies cut s ends (j : Int)) true := by
  have hsz := h.size
  have hnum := h.num
  have helen : ends.length = fs.length := by rw [h.ends, List.length_map, endsL_length]
  have hdata : s.data.toList = rowL first.toNat fs := by rw [h.bytes]
  have last : ∀ j : Nat, j ≤ fs.length → endL 0 (fs.take j) ≤ cut → (∀ x, fs[j]? = some x → cut < endL 0 (fs.take j) + 18 + x.2.length) →
      Ev (fun k => if (0 : Int) ≤ (cut : Int) then (if (cut : Int) ≤ (s.size : Int) then ((postbaglaw10_told.f (s.extract 0 ((cut : Nat) : Int).toNat)).bind fun bt222 => ((postbaglaw10_whole.f k bt222.1 bt222.2 first bodies ends (j : Int)).bind fun t228 => (if t228 = true then ((postbaglaw10_known.f).bind fun t229 => (some t229)) else (some false)))) else (none)) else (none)) true := by
    intro j hj h1 h2
    have e : postbaglaw10_told.f (s.extract 0 ((cut : Nat) : Int).toNat) = some ((seenL first.toNat 0 (fs.take j)).map s49, (seenL first.toNat 0 (fs.take j)).map nx) := by
      rw [told_f _ (by rw [ByteArray.size_extract]; omega), ext_data0, Int.toNat_natCast, hdata, cut_scan fs first.toNat j cut h.ok hj h1 h2]
    refine Ev.congr (f := fun k => (postbaglaw10_whole.f k ((seenL first.toNat 0 (fs.take j)).map s49) ((seenL first.toNat 0 (fs.take j)).map nx) first bodies ends (j : Int)).bind fun t228 => (if t228 = true then ((postbaglaw10_known.f).bind fun t229 => (some t229)) else (some false))) (fun k => ?_) ?_
    · rw [if_pos (by omega), if_pos (by omega), e, Option.bind_some]
    · exact Ev.bind (whole_f h j hj) (Ev.now _)
  induction d with
  | zero =>
    intro j hj h1
    refine Ev.step (fun k => ?_) (last j (by omega) h1 (fun x hx => by have := (List.getElem?_eq_some_iff.1 hx).1; omega))
    simp only [postbaglaw10_FrameCut.l0]
    rw [if_neg (by omega)]
  | succ d ih =>
    intro j hj h1
    have hx := List.getElem?_eq_getElem (l := fs) (i := j) (by omega)
    generalize fs[j] = x at hx
    have r4 : rd ends (j : Int) = ((endL 0 (fs.take j) + 18 + x.2.length : Nat) : Int) := by
      unfold rd
      rw [Int.toNat_natCast, List.getD_eq_getElem?_getD, h.ends, List.getElem?_map, endsL_get, hx]
      rfl
    have htk : endL 0 (fs.take (j + 1)) = endL 0 (fs.take j) + 18 + x.2.length := by
      have e : fs.take (j + 1) = fs.take j ++ [x] := by rw [List.take_add_one, hx]; rfl
      rw [e, endL_snoc]
    by_cases c : endL 0 (fs.take j) + 18 + x.2.length ≤ cut
    · refine Ev.step (fun k => ?_) (ih (j + 1) (by omega) (by omega))
      simp only [postbaglaw10_FrameCut.l0]
      rw [if_pos (by omega), if_pos (by omega), r4, if_pos (by omega), w64 (by omega) (by omega), Int.natCast_succ]
    · refine Ev.step (fun k => ?_) (last j (by omega) h1 (fun y hy => by rw [hx] at hy; obtain rfl := Option.some.inj hy; omega))
      simp only [postbaglaw10_FrameCut.l0]
      rw [if_pos (by omega), if_pos (by omega), r4, if_neg (by omega)]
end Go.Proofs.Ytcndhgpaoihblaa.Fr
namespace Go.Proofs.Ytcndhgpaoihblaa.Pure
open Go.RowKit Go.Proofs.YtcndhgpaoihblaaW.PrintWords
open Fr Plain Crc
theorem FrameCut (first : Int) (bodies : List ByteArray) (kinds : List Int) (cut : Int) (h0 : (Lit.int .i64 first).wf = true) (_h1 : (∀ x ∈ bodies, x.size ≤ 140737488351232) ∧ bodies.length * Try.prog.bytesOf 9 ≤ 140737488351232) (_h2 : (∀ x ∈ kinds, (Lit.int .i64 x).wf = true) ∧ kinds.length * Try.prog.bytesOf 3 ≤ 140737488351232) (_h3 : (Lit.int .i64 cut).wf = true) : ∃ k, postbaglaw10_FrameCut.f k first bodies kinds cut = some true := by
  have hf := (Lit.wf_int_iff .i64 first).1 h0
  simp only [show IntKind.i64.min = -9223372036854775808 from rfl, show IntKind.i64.max = 9223372036854775807 from rfl] at hf
  obtain ⟨s, ends, ok, hrow, hok⟩ := row_f first bodies kinds hf.1 hf.2
  refine Ev.rounds ?_
  unfold postbaglaw10_FrameCut.f
  refine Ev.bind hrow ?_
  cases ok with
  | false => exact Ev.congr (fun k => by rw [if_neg (by simp), known_some]; rfl) (Ev.now _)
  | true =>
    obtain ⟨fs, h⟩ := hok rfl
    have hsz := h.size
    have tail : ∀ c : Nat, c ≤ s.size → Ev (fun k => postbaglaw10_FrameCut.j1 k first bodies (c : Int) s ends) true := fun c hc =>
      Ev.step (fun k => by simp only [postbaglaw10_FrameCut.j1]; rfl) (cut_l0 h c hc fs.length 0 (Nat.zero_add _) (Nat.zero_le _))
    by_cases c1 : cut < 0
    · refine Ev.congr (f := fun k => postbaglaw10_FrameCut.j0 k first bodies cut s ends true) (fun k => by rw [if_pos rfl, if_pos c1]) ?_
      exact Ev.step (fun k => by simp only [postbaglaw10_FrameCut.j0, if_true]) (tail s.size (Nat.le_refl _))
    · refine Ev.congr (f := fun k => postbaglaw10_FrameCut.j0 k first bodies cut s ends (decide (cut > (s.size : Int)))) (fun k => by rw [if_pos rfl, if_neg c1]) ?_
      by_cases c2 : cut > (s.size : Int)
      · rw [decide_eq_true c2]
        exact Ev.step (fun k => by simp only [postbaglaw10_FrameCut.j0, if_true]) (tail s.size (Nat.le_refl _))
      · rw [decide_eq_false c2]
        obtain ⟨c, rfl⟩ := Int.eq_ofNat_of_zero_le (show 0 ≤ cut by omega)
        exact Ev.step (fun k => by simp only [postbaglaw10_FrameCut.j0, Bool.false_eq_true, if_false]) (tail c (by omega))
end Go.Proofs.Ytcndhgpaoihblaa.Pure
