/- FrameSpoilt: its pure statement. -/
import Derived.Test.YtcndhgpaoihblaaFr11
import Derived.Test.YtcndhgpaoihblaaCutF
namespace Go.Proofs.Ytcndhgpaoihblaa.Fr
open Go.RowKit Go.Proofs.YtcndhgpaoihblaaW.PrintWords
open Plain Crc
/-- One byte that is turned, plain. -/
theorem spoil_scan (fs : Frs) (n j at_ : Nat) (y : UInt8) (hok : okL n fs) (x : Nat × List UInt8) (hx : fs[j]? = some x) (h1 : endL 0 (fs.take j) ≤ at_) (h2 : at_ < endL 0 (fs.take j) + 18 + x.2.length)
    (hy : (rowL n fs)[at_]? ≠ some y) : scanT ((rowL n fs).take at_ ++ y :: (rowL n fs).drop (at_ + 1)) 0 none = seenL n 0 (fs.take j) := by
  have hL := endL_add (fs.take j) 0 n
  rw [Nat.zero_add] at hL
  obtain ⟨k, b⟩ := x
  have hlt := (List.getElem?_eq_some_iff.1 hx).1
  have hd : fs.drop j = (k, b) :: fs.drop (j + 1) := by
    rw [List.drop_eq_getElem_cons hlt]
    rw [List.getElem?_eq_getElem hlt] at hx
    rw [Option.some.inj hx]
  have hs : rowL n fs = rowL n (fs.take j) ++ (encL k (n + j) b ++ rowL (n + j + 1) (fs.drop (j + 1))) := by
    rw [rowL_split fs n j, hd]
    rfl
  generalize hp : rowL n (fs.take j) = P at *
  generalize rowL (n + j + 1) (fs.drop (j + 1)) = Q at *
  have hE := encL_length k (n + j) b
  simp only at h2
  obtain ⟨q, hq⟩ : ∃ q, at_ = P.length + q := ⟨at_ - P.length, by omega⟩
  have hql : q < (encL k (n + j) b).length := by omega
  have hsp : encL k (n + j) b = (encL k (n + j) b).take q ++ (encL k (n + j) b)[q] :: (encL k (n + j) b).drop (q + 1) := by
    rw [← List.drop_eq_getElem_cons hql, List.take_append_drop]
  have hget : (rowL n fs)[at_]? = some (encL k (n + j) b)[q] := by
    rw [hs, hq, List.getElem?_append_right (by omega), Nat.add_sub_cancel_left, List.getElem?_append_left hql, List.getElem?_eq_getElem hql]
  have hne : y ≠ (encL k (n + j) b)[q] := fun e => hy (by rw [hget, e])
  have e1 : (rowL n fs).take at_ ++ y :: (rowL n fs).drop (at_ + 1) = P ++ ((encL k (n + j) b).take q ++ y :: (encL k (n + j) b).drop (q + 1) ++ Q) := by
    rw [hs, hq, List.take_append, List.take_of_length_le (by omega), Nat.add_sub_cancel_left, List.take_append_of_le_length (by omega)]
    rw [List.drop_append, List.drop_eq_nil_of_le (by omega), List.nil_append, show P.length + q + 1 - P.length = q + 1 from by omega, List.drop_append_of_le_length (by omega)]
    simp only [List.append_assoc, List.cons_append]
  have hf := okL_get fs n j _ hok hx
  have hnone := frameL_spoilt k (n + j) b Q _ _ _ y hf hsp hne
  rw [e1, ← hp, scan_row _ _ _ _ _ (okL_take fs n j hok) (.inl rfl), scanT_none hnone, List.append_nil]
theorem spoilt_bytes (s : ByteArray) (a : Nat) (y : UInt8) (_h : a < s.size) : (s.extract 0 a ++ (⟨#[y]⟩ : ByteArray) ++ s.extract (a + 1) s.size).data.toList = s.data.toList.take a ++ y :: s.data.toList.drop (a + 1) := by
  rw [ByteArray.data_append, ByteArray.data_append, Array.toList_append, Array.toList_append, ext_data0, ext_data, ← toList_length s, List.take_length]
  simp
theorem strOfNums_one (t : Int) (h0 : 0 ≤ t) (h1 : t ≤ 255) : strOfNums [t % 256] = ⟨#[UInt8.ofNat t.toNat]⟩ := by
  show (⟨[UInt8.ofNat (t % 256).toNat].toArray⟩ : ByteArray) = _
  rw [Int.emod_eq_of_lt h0 (by omega)]
theorem spoilt_l0 {first : Int} {bodies : List ByteArray} {s : ByteArray} {ends : List Int} {fs : Frs} (h : RowOk first bodies s ends fs) (a t : Nat) (ha : a < s.size) (ht : t ≤ 255) (hne : bt s a ≠ t) (d : Nat) : ∀ j : Nat, j + d = fs.length → endL 0 (fs.take j) ≤ a →
    Ev (fun k => postbaglaw10_FrameSpoilt.l0 k first bodies a t s ends (j : Int)) true := by
  have hsz := h.size
  have hnum := h.num
  have helen : ends.length = fs.length := by rw [h.ends, List.length_map, endsL_length]
  have hdata : s.data.toList = rowL first.toNat fs := by rw [h.bytes]
  have hE := RowOk.endL h
  induction d with
  | zero =>
    intro j hj h1
    rw [List.take_of_length_le (by omega)] at h1
    omega
  | succ d ih =>
    intro j hj h1
    have hx := List.getElem?_eq_getElem (l := fs) (i := j) (by omega)
    generalize fs[j] = x at hx
    have r4 : rd ends (j : Int) = ((endL 0 (fs.take j) + 18 + x.2.length : Nat) : Int) := by
      unfold rd
      rw [Int.toNat_natCast, List.getD_eq_getElem?_getD, h.ends, List.getElem?_map, endsL_get, hx]
      rfl
    have htk : endL 0 (fs.take (j + 1)) = endL 0 (fs.take j) + 18 + x.2.length := by
      have e : fs.take (j + 1) = fs.take j ++ [x] := by rw [List.take_add_one, hx]; rfl
      rw [e, endL_snoc]
    by_cases c : endL 0 (fs.take j) + 18 + x.2.length ≤ a
    · refine Ev.step (fun k => ?_) (ih (j + 1) (by omega) (by omega))
      simp only [postbaglaw10_FrameSpoilt.l0]
      rw [if_pos (by omega), if_pos (by omega), r4, if_pos (by omega), w64 (by omega) (by omega), Int.natCast_succ]
    · have hb : (rowL first.toNat fs)[a]? ≠ some (UInt8.ofNat t) := fun e => hne (by
        rw [← hdata, get_data s a ha] at e
        rw [bt_eq s a ha, Option.some.inj e, UInt8.toNat_ofNat']
        omega)
      obtain ⟨z, hz⟩ : ∃ z : ByteArray, z = s.extract 0 a ++ (⟨#[UInt8.ofNat t]⟩ : ByteArray) ++ s.extract (a + 1) s.size := ⟨_, rfl⟩
      have hzs : z.size ≤ 1099511627776 := by
        have := spoilt_bytes s a (UInt8.ofNat t) ha
        rw [← hz] at this
        have := congrArg List.length this
        rw [toList_length, List.length_append, List.length_cons, List.length_take, List.length_drop, toList_length] at this
        omega
      have e : postbaglaw10_told.f z = some ((seenL first.toNat 0 (fs.take j)).map s49, (seenL first.toNat 0 (fs.take j)).map nx) := by
        rw [told_f z hzs, hz, spoilt_bytes s a _ ha, hdata, spoil_scan fs first.toNat j a _ h.ok x hx h1 (by omega) hb]
      have w1 := Lib.hid (w64 (x := (a : Int) + 1) (by omega) (by omega))
      have sx : (s.extract 0 a).size = a := by rw [ByteArray.size_extract]; omega
      have sy : (s.extract (a + 1) s.size).size = s.size - (a + 1) := by rw [ByteArray.size_extract]; omega
      have s1 : (⟨#[UInt8.ofNat t]⟩ : ByteArray).size = 1 := rfl
      have tn : ((a : Int) + 1).toNat = a + 1 := by omega
      have q1 : (s.extract 0 a).size + (⟨#[UInt8.ofNat t]⟩ : ByteArray).size ≤ 9223372036854775807 := by omega
      have q2 : (s.extract 0 a ++ (⟨#[UInt8.ofNat t]⟩ : ByteArray)).size + (s.extract (a + 1) s.size).size ≤ 9223372036854775807 := by rw [ByteArray.size_append]; omega
      have c1 : (0 : Int) ≤ (j : Int) := by omega
      have c2 : (j : Int) < (ends.length : Int) := by omega
      have c3 : ¬ (((endL 0 (fs.take j) + 18 + x.2.length : Nat) : Int) ≤ (a : Int)) := by omega
      have c4 : (0 : Int) ≤ (a : Int) := by omega
      have c5 : (a : Int) ≤ (s.size : Int) := by omega
      have c6 : (0 : Int) ≤ (a : Int) + 1 := by omega
      have c7 : (a : Int) + 1 ≤ (s.size : Int) := by omega
      refine Ev.step (f := fun k => (postbaglaw10_whole.f k ((seenL first.toNat 0 (fs.take j)).map s49) ((seenL first.toNat 0 (fs.take j)).map nx) first bodies ends (j : Int)).bind fun t246 => (if t246 = true then ((postbaglaw10_known.f).bind fun t247 => (some t247)) else (some false))) (fun k => ?_) (Ev.bind (whole_f h j (by omega)) (Ev.now _))
      simp only [postbaglaw10_FrameSpoilt.l0]
      rw [if_pos c1, if_pos c2, r4, if_neg c3, if_pos c4, if_pos c5, Option.bind_some, strOfNums_one (t : Int) (by omega) (by omega), Int.toNat_natCast, Int.toNat_natCast, w1.out, tn, if_pos q1, if_pos c6, if_pos c7, if_pos q2, ← hz, e, Option.bind_some]
end Go.Proofs.Ytcndhgpaoihblaa.Fr
namespace Go.Proofs.Ytcndhgpaoihblaa.Pure
open Go.RowKit Go.Proofs.YtcndhgpaoihblaaW.PrintWords
open Fr Plain Crc
theorem FrameSpoilt (first : Int) (bodies : List ByteArray) (kinds : List Int) (a t : Int) (h0 : (Lit.int .i64 first).wf = true) (_h1 : (∀ x ∈ bodies, x.size ≤ 140737488351232) ∧ bodies.length * Try.prog.bytesOf 9 ≤ 140737488351232) (_h2 : (∀ x ∈ kinds, (Lit.int .i64 x).wf = true) ∧ kinds.length * Try.prog.bytesOf 3 ≤ 140737488351232) (_h3 : (Lit.int .i64 a).wf = true) (_h4 : (Lit.int .i64 t).wf = true) : ∃ k, postbaglaw10_FrameSpoilt.f k first bodies kinds a t = some true := by
  have hf := (Lit.wf_int_iff .i64 first).1 h0
  simp only [show IntKind.i64.min = -9223372036854775808 from rfl, show IntKind.i64.max = 9223372036854775807 from rfl] at hf
  obtain ⟨s, ends, ok, hrow, hok⟩ := row_f first bodies kinds hf.1 hf.2
  refine Ev.rounds ?_
  unfold postbaglaw10_FrameSpoilt.f
  refine Ev.bind hrow ?_
  have out : Ev (fun k => postbaglaw10_FrameSpoilt.j0 k first bodies a t s ends true) true :=
    Ev.step (f := fun _ => some true) (fun k => by simp only [postbaglaw10_FrameSpoilt.j0, if_true]; rfl) (Ev.now _)
  cases ok with
  | false => exact Ev.congr (fun k => by rw [if_neg (by simp)]) out
  | true =>
    obtain ⟨fs, h⟩ := hok rfl
    have hsz := h.size
    refine Ev.congr (fun k => if_pos rfl) ?_
    by_cases c1 : a < 0
    · exact Ev.congr (fun k => if_pos c1) out
    · refine Ev.congr (fun k => if_neg c1) ?_
      by_cases c2 : a ≥ (s.size : Int)
      · exact Ev.congr (fun k => if_pos c2) out
      · refine Ev.congr (fun k => if_neg c2) ?_
        by_cases c3 : t < 0
        · exact Ev.congr (fun k => if_pos c3) out
        · refine Ev.congr (fun k => if_neg c3) ?_
          by_cases c4 : t > 255
          · exact Ev.congr (fun k => if_pos c4) out
          · refine Ev.congr (fun k => if_neg c4) ?_
            refine Ev.congr (fun k => if_pos (show 0 ≤ a by omega)) ?_
            refine Ev.congr (fun k => if_pos (show a < (s.size : Int) by omega)) ?_
            obtain ⟨a, rfl⟩ := Int.eq_ofNat_of_zero_le (show 0 ≤ a by omega)
            obtain ⟨t, rfl⟩ := Int.eq_ofNat_of_zero_le (show 0 ≤ t by omega)
            have hb := bt_range s (a : Int)
            rw [w64 (x := bt s (a : Int)) (by omega) (by omega)]
            by_cases c5 : bt s (a : Int) = (t : Int)
            · rw [c5, beq_self_eq_true]
              exact out
            · rw [beq_eq_false_iff_ne.2 c5]
              exact Ev.step (fun k => by simp only [postbaglaw10_FrameSpoilt.j0, Bool.false_eq_true, if_false]; rfl) (spoilt_l0 h a t (by omega) (by omega) c5 fs.length 0 (Nat.zero_add _) (Nat.zero_le _))
end Go.Proofs.Ytcndhgpaoihblaa.Pure
