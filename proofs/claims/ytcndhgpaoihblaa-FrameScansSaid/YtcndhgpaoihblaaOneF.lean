/- What the printed function of postbagref10.one comes to: the plain frame at a place. -/
import Derived.Test.YtcndhgpaoihblaaFr7
import Derived.Test.YtcndhgpaoihblaaRefF
import Derived.Test.YtcndhgpaoihblaaReadF
namespace Go.Proofs.Ytcndhgpaoihblaa.Fr
open Go.RowKit Go.Proofs.YtcndhgpaoihblaaW.PrintWords
open Plain Crc

theorem drop_four (s : ByteArray) (a : Nat) (h : a + 4 ≤ s.size) : s.data.toList.drop a = s[a] :: s[a + 1] :: s[a + 2] :: s[a + 3] :: s.data.toList.drop (a + 4) := by
  have hl := toList_length s
  rw [List.drop_eq_getElem_cons (by omega), List.drop_eq_getElem_cons (by omega), List.drop_eq_getElem_cons (by omega), List.drop_eq_getElem_cons (by omega)]
  rfl
theorem value_f (s : ByteArray) (a : Nat) (h : a + 4 ≤ s.size) (hs : s.size ≤ 4611686018427387904) : postbagref10_value.f s (a : Int) = some (num4 (s.data.toList.drop a) : Int) := by
  rw [drop_four s a h]
  unfold postbagref10_value.f
  have w1 := w64 (x := (a : Int) + 1) (by omega) (by omega)
  have w2 := w64 (x := (a : Int) + 2) (by omega) (by omega)
  have w3 := w64 (x := (a : Int) + 3) (by omega) (by omega)
  have e0 := bt_eq s a (by omega)
  have e1 : bt s ((a : Int) + 1) = _ := bt_eq s (a + 1) (by omega)
  have e2 : bt s ((a : Int) + 2) = _ := bt_eq s (a + 2) (by omega)
  have e3 : bt s ((a : Int) + 3) = _ := bt_eq s (a + 3) (by omega)
  rw [if_pos (by omega), if_pos (by omega), w1, w2, w3, if_pos (by omega), if_pos (by omega), if_pos (by omega), if_pos (by omega), if_pos (by omega), if_pos (by omega), e0, e1, e2, e3]
  have b0 := s[a].toNat_lt
  have b1 := s[a + 1].toNat_lt
  have b2 := s[a + 2].toNat_lt
  have b3 := s[a + 3].toNat_lt
  simp only [num4]
  generalize s[a].toNat = x0 at *
  generalize s[a + 1].toNat = x1 at *
  generalize s[a + 2].toNat = x2 at *
  generalize s[a + 3].toNat = x3 at *
  rw [w64 (x := (x0 : Int)) (by omega) (by omega), w64 (x := (x1 : Int)) (by omega) (by omega), w64 (x := (x2 : Int)) (by omega) (by omega), w64 (x := (x3 : Int)) (by omega) (by omega)]
  rw [w64 (x := (x0 : Int) * 16777216) (by omega) (by omega), w64 (x := (x1 : Int) * 65536) (by omega) (by omega), w64 (x := (x2 : Int) * 256) (by omega) (by omega)]
  rw [w64 (x := (x0 : Int) * 16777216 + (x1 : Int) * 65536) (by omega) (by omega), w64 (x := (x0 : Int) * 16777216 + (x1 : Int) * 65536 + (x2 : Int) * 256) (by omega) (by omega), w64 (by omega) (by omega)]
  refine congrArg some ?_
  omega
/-- What one answers. -/
def oneAns (s : ByteArray) (i : Nat) : Option (Nat × Nat × Nat) → Int × Int × Int × ByteArray × Int
  | none => (0, 0, 0, ⟨#[]⟩, 0)
  | some (k, n, m) => ((k : Int), (n : Int), (i : Int), ⟨(((s.data.toList.drop i).drop 14).take m).toArray⟩, ((i + 18 + m : Nat) : Int))
theorem frameL_parts {t : List UInt8} {k n m : Nat} (h : frameL t = some (k, n, m)) : k = (t.getD 1 0).toNat ∧ n = num4 (t.drop 2) ∧ m = num4 (t.drop 6) := by
  unfold frameL at h
  split at h; · exact absurd h (by simp)
  split at h; · exact absurd h (by simp)
  split at h; · exact absurd h (by simp)
  simp only at h
  split at h; · exact absurd h (by simp)
  split at h; · exact absurd h (by simp)
  split at h; · exact absurd h (by simp)
  simp only [Option.some.injEq, Prod.mk.injEq] at h
  exact ⟨h.1.symm, h.2.1.symm, h.2.2.symm⟩
theorem ext_take (s : ByteArray) (i m : Nat) : s.extract i (i + m) = ⟨((s.data.toList.drop i).take m).toArray⟩ := by
  have e : (s.extract i (i + m)).data.toList = (s.data.toList.drop i).take m := by
    rw [ext_data, List.drop_take]
    congr 1
    omega
  have e2 : (s.extract i (i + m)).data = ((s.data.toList.drop i).take m).toArray := by
    apply Array.toList_inj.1
    rw [e]
  exact congrArg ByteArray.mk e2
theorem ba_ext {a b : ByteArray} (h : a.toList = b.toList) : a = b := by
  rw [ByteArray.toList_eq, ByteArray.toList_eq] at h
  exact congrArg ByteArray.mk (Array.toList_inj.1 h)
theorem one_f (s : ByteArray) (i : Nat) (hi : i ≤ s.size) (hs : s.size ≤ 4611686018427387000) :
    Ev (fun k => postbagref10_one.f k s (i : Int)) (oneAns s i (frameL (s.data.toList.drop i))) := by
  have hl : (s.data.toList.drop i).length = s.size - i := by rw [List.length_drop, toList_length]
  unfold postbagref10_one.f
  have w18 := w64 (x := (i : Int) + 18) (by omega) (by omega)
  have w6 := w64 (x := (i : Int) + 6) (by omega) (by omega)
  rw [w18, w6]
  by_cases c1 : (i : Int) + 18 > (s.size : Int)
  · have e : frameL (s.data.toList.drop i) = none := by
      unfold frameL
      rw [if_pos (by omega)]
    rw [e]
    exact Ev.congr (f := fun _ => some (0, 0, 0, (⟨#[]⟩ : ByteArray), 0)) (fun k => by rw [if_pos c1]) (Ev.now _)
  · have hv : postbagref10_value.f s ((i : Int) + 6) = some (num4 ((s.data.toList.drop i).drop 6) : Int) := by
      rw [List.drop_drop]
      exact value_f s (i + 6) (by omega) (by omega)
    have hv2 : postbagref10_value.f s ((i : Int) + 2) = some (num4 ((s.data.toList.drop i).drop 2) : Int) := by
      rw [List.drop_drop]
      exact value_f s (i + 2) (by omega) (by omega)
    have hk : bt s ((i : Int) + 1) = (((s.data.toList.drop i).getD 1 0).toNat : Int) := by
      rw [drop_four s i (by omega)]
      exact bt_eq s (i + 1) (by omega)
    have lt2 := num4_lt ((s.data.toList.drop i).drop 6)
    have none_of : ∀ {P : Prop}, (∀ k n m, frameL (s.data.toList.drop i) = some (k, n, m) → k = ((s.data.toList.drop i).getD 1 0).toNat → n = num4 ((s.data.toList.drop i).drop 2) → m = num4 ((s.data.toList.drop i).drop 6) → False) → frameL (s.data.toList.drop i) = none := fun h => by
      cases e : frameL (s.data.toList.drop i) with
      | none => rfl
      | some x =>
        obtain ⟨k, n, m⟩ := x
        obtain ⟨p1, p2, p3⟩ := frameL_parts e
        exact absurd (h k n m e p1 p2 p3) id
    refine Ev.congr (f := fun k => if (num4 ((s.data.toList.drop i).drop 6) : Int) > 2097152 then (postbagref10_one.j0 k s i (num4 ((s.data.toList.drop i).drop 6) : Int) true) else (postbagref10_one.j0 k s i (num4 ((s.data.toList.drop i).drop 6) : Int) (decide ((wrap64 (((i : Int) + 18) + (num4 ((s.data.toList.drop i).drop 6) : Int))) > (s.size : Int))))) (fun k => by rw [if_neg c1, hv]; rfl) ?_
    by_cases c2 : (num4 ((s.data.toList.drop i).drop 6) : Int) > 2097152
    · have e := none_of (P := True) (fun k n m h h1 h2 h3 => by have := (fits_iff.1 (frameL_some h).1).2.2.2; omega)
      rw [e]
      refine Ev.congr (f := fun k => postbagref10_one.j0 k s i (num4 ((s.data.toList.drop i).drop 6) : Int) true) (fun k => by rw [if_pos c2]) ?_
      exact Ev.step (f := fun _ => some (0, 0, 0, (⟨#[]⟩ : ByteArray), 0)) (fun k => by simp only [postbagref10_one.j0, if_true]) (Ev.now _)
    · refine Ev.congr (f := fun k => postbagref10_one.j0 k s i (num4 ((s.data.toList.drop i).drop 6) : Int) (decide ((wrap64 (((i : Int) + 18) + (num4 ((s.data.toList.drop i).drop 6) : Int))) > (s.size : Int)))) (fun k => by rw [if_neg c2]) ?_
      have lk := ((s.data.toList.drop i).getD 1 0).toNat_lt
      have ln := num4_lt ((s.data.toList.drop i).drop 2)
      have hp := @frameL_parts (s.data.toList.drop i)
      have hsm := @frameL_some (s.data.toList.drop i)
      have hen := frameL_enc
      have hd : s.data.toList.drop i = (s.data.toList.drop i).take (18 + num4 ((s.data.toList.drop i).drop 6)) ++ (s.data.toList.drop i).drop (18 + num4 ((s.data.toList.drop i).drop 6)) := (List.take_append_drop _ _).symm
      have hx := ext_take s i (18 + num4 ((s.data.toList.drop i).drop 6))
      have hy := ext_take s (i + 14) (num4 ((s.data.toList.drop i).drop 6))
      rw [← List.drop_drop] at hy
      have hby : ((((s.data.toList.drop i).drop 14).take (num4 ((s.data.toList.drop i).drop 6)))).length = min (num4 ((s.data.toList.drop i).drop 6)) (s.size - i - 14) := by rw [List.length_take, List.length_drop, hl]
      generalize hm : num4 ((s.data.toList.drop i).drop 6) = m at *
      generalize hn : num4 ((s.data.toList.drop i).drop 2) = n at *
      generalize hkk : ((s.data.toList.drop i).getD 1 0).toNat = kk at *
      rw [w64 (x := (i : Int) + 18 + (m : Int)) (by omega) (by omega)]
      by_cases c3 : (i : Int) + 18 + (m : Int) > (s.size : Int)
      · have e := none_of (P := True) (fun k n m h h1 h2 h3 => by have := (frameL_some h).2.1; omega)
        rw [e]
        exact Ev.step (f := fun _ => some (0, 0, 0, (⟨#[]⟩ : ByteArray), 0)) (fun k => by simp only [postbagref10_one.j0, decide_eq_true c3, if_true]) (Ev.now _)
      · refine Ev.step (f := fun k => (postbagref10_Encode.f k (kk : Int) (n : Int) (s.extract (i + 14) (i + 14 + m))).bind fun bt181 => (if bt181.2 = 0 then (if bt181.1.toList = (s.extract i (i + (18 + m))).toList then (some ((kk : Int), (n : Int), (i : Int), s.extract (i + 14) (i + 14 + m), ((i + 18 + m : Nat) : Int))) else (some (0, 0, 0, (⟨#[]⟩ : ByteArray), 0))) else (some (0, 0, 0, (⟨#[]⟩ : ByteArray), 0)))) (fun k => ?_) ?_
        · have w1 := Lib.hid (w64 (x := (i : Int) + 1) (by omega) (by omega))
          have w2 := Lib.hid (w64 (x := (i : Int) + 2) (by omega) (by omega))
          have w14 := Lib.hid (w64 (x := (i : Int) + 14) (by omega) (by omega))
          have w14m := Lib.hid (w64 (x := (i : Int) + 14 + (m : Int)) (by omega) (by omega))
          have w18m := Lib.hid (w64 (x := (i : Int) + 18 + (m : Int)) (by omega) (by omega))
          have wk := Lib.hid (w64 (x := (kk : Int)) (by omega) (by omega))
          have t1 : ((i : Int) + 14).toNat = i + 14 := by omega
          have t2 : ((i : Int) + 14 + (m : Int)).toNat = i + 14 + m := by omega
          have t3 : ((i : Int) + 18 + (m : Int)).toNat = i + (18 + m) := by omega
          have t4 : (i : Int) + 18 + (m : Int) = ((i + 18 + m : Nat) : Int) := by omega
          simp only [postbagref10_one.j0, decide_eq_false c3, Bool.false_eq_true, if_false, w1.out, w2.out, w14.out, w14m.out, w18, w18m.out, hv2, Option.bind_some, hk, wk.out, t1, t2, t3, Int.toNat_natCast]
          rw [if_pos (by omega), if_pos (by omega), if_pos (by omega), if_pos (by omega), if_pos (by omega)]
          have q1 : (0 : Int) ≤ (i : Int) := by omega
          have q2 : (i : Int) ≤ (i : Int) + 18 + (m : Int) := by omega
          have q3 : (i : Int) + 18 + (m : Int) ≤ (s.size : Int) := by omega
          simp only [if_pos q1, if_pos q2, if_pos q3]
          rw [t4]
        · refine Ev.bind (ref_encode (kk : Int) (n : Int) _) ?_
          rw [hy, hx]
          unfold encAns
          have hlen : (((s.data.toList.drop i).drop 14).take m).length = m := by omega
          have hz : oneAns s i none = (0, 0, 0, (⟨#[]⟩ : ByteArray), 0) := rfl
          have hS : oneAns s i (some (kk, n, m)) = ((kk : Int), (n : Int), (i : Int), ⟨(((s.data.toList.drop i).drop 14).take m).toArray⟩, ((i + 18 + m : Nat) : Int)) := rfl
          have d1 : ¬ ((⟨(((s.data.toList.drop i).drop 14).take m).toArray⟩ : ByteArray).size : Int) > 2097152 := by rw [size_str, hlen]; omega
          simp only [if_neg d1, Int.toNat_natCast]
          by_cases d2 : (kk : Int) = 1 ∨ (kk : Int) = 2
          · by_cases d3 : 1 ≤ (n : Int) ∧ (n : Int) < 4294967295
            · simp only [if_neg (not_not_intro d2), if_neg (not_not_intro d3), if_true]
              have hf : fits kk n (((s.data.toList.drop i).drop 14).take m).length = true := by rw [hlen]; exact fits_iff.2 ⟨by omega, by omega, by omega, by omega⟩
              by_cases d4 : encL kk n (((s.data.toList.drop i).drop 14).take m) = (s.data.toList.drop i).take (18 + m)
              · have e : frameL (s.data.toList.drop i) = some (kk, n, m) := by
                  rw [hd, ← d4, frameL_enc _ _ _ _ hf, hlen]
                rw [e, hS]
                exact Ev.congr (fun k => by rw [if_pos (by rw [ByteArray.toList_eq, ByteArray.toList_eq, d4])]) (Ev.now _)
              · have e := none_of (P := True) (fun k n' m' h h1 h2 h3 => d4 (by
                  have := (frameL_some h).2.2
                  rw [h1, h2, h3] at this
                  exact this.symm))
                rw [e, hz]
                exact Ev.congr (fun k => by rw [if_neg (fun q => d4 (by simpa [ByteArray.toList_eq] using q))]) (Ev.now _)
            · have e := none_of (P := True) (fun k n' m' h h1 h2 h3 => d3 (by
                have := fits_iff.1 (frameL_some h).1
                omega))
              rw [e, hz]
              simp only [if_neg (not_not_intro d2), if_pos d3]
              exact Ev.congr (fun k => by rw [if_neg (by decide)]) (Ev.now _)
          · have e := none_of (P := True) (fun k n' m' h h1 h2 h3 => d2 (by
              have := fits_iff.1 (frameL_some h).1
              omega))
            rw [e, hz]
            simp only [if_pos d2]
            exact Ev.congr (fun k => by rw [if_neg (by decide)]) (Ev.now _)
end Go.Proofs.Ytcndhgpaoihblaa.Fr
