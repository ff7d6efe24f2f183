/- postbagref10.Scan: the frames of a text and the places behind them. -/
import Derived.Test.YtcndhgpaoihblaaTold
import Derived.Test.YtcndhgpaoihblaaOneF
namespace Go.Proofs.Ytcndhgpaoihblaa.Fr
open Go.RowKit Go.Proofs.YtcndhgpaoihblaaW.PrintWords
open Plain Crc

def lastNo (l : List Seen) : Option Nat := l.getLast?.map (·.number)
theorem scanT_number (t : List UInt8) (i : Nat) (p : Option Nat) : ∀ x ∈ scanT t i p, x.number < 4294967295 := by
  match h : frameL t with
  | none => rw [scanT_none h]; simp
  | some (k, n, m) =>
    have hl := (frameL_some h).2.1
    have hn := (fits_iff.1 (frameL_some h).1).2.2.1
    rw [scanT_some h]
    split
    · have ih := scanT_number (t.drop (18 + m)) (i + 18 + m) (some n)
      intro x hx
      rcases List.mem_cons.1 hx with rfl | hx
      · exact hn
      · exact ih x hx
    · simp
termination_by t.length
decreasing_by
  have := (frameL_some h).2.1
  rw [List.length_drop]
  omega
/-- The head of the loop. -/
structure RHead (s : ByteArray) (w : World) (n : Nat) (v4 v5 v6 : Value) (done rest : List Seen) (i : Nat) (wr : World) : Prop where
  len : rest.length + 1 = n
  tot : done ++ rest = scanT s.data.toList 0 none
  cur : rest = scanT (s.data.toList.drop i) i (lastNo done)
  at_ : i ≤ s.size
  place : v6 = .int .i64 i
  l1 : Kd.R k49 49 wr w.heap.size (fun _ => True) v4 (done.map s49)
  l2 : Kd.R (Kd.int .i64) 3 wr w.heap.size (fun _ => True) v5 (done.map nx)
  below : Below w.heap.size w wr

set_option maxHeartbeats 2000000 in
set_option maxRecDepth 100000 in
theorem rscan_calls (s : ByteArray) (w : World) (hs : s.size ≤ 1099511627776) :
    Calls Try.prog 22 #[.string s] w fun e w' => ∃ v0_ v1_ : Value, e = .returned (.tuple #[v0_, v1_]) ∧ Kd.R k49 49 w' w.heap.size (fun _ => True) v0_ ((scanT s.data.toList 0 none).map s49) ∧
      Kd.R (Kd.int .i64) 3 w' w.heap.size (fun _ => True) v1_ ((scanT s.data.toList 0 none).map nx) ∧ Below w.heap.size w w' := by
  have hu49 := Try.underlying49
  have hsc := scanT_length s.data.toList 0 none
  rw [toList_length] at hsc
  go_enter Try.func22, Try.ntmps22
  go_wp2
  go_loopg [4, 5, 6] ((scanT s.data.toList 0 none).length + 1) (fun n v4 v5 v6 wr => ∃ done rest i, RHead s w n v4 v5 v6 done rest i wr)
  case atStart => exact ⟨[], _, 0, ⟨rfl, rfl, rfl, by omega, rfl, Kd.R_nil _ _ _ _ _, Kd.R_nil _ _ _ _ _, Below.refl _ _⟩⟩
  case round =>
    obtain ⟨done, rest, i, H0⟩ := hrel
    have hv6 := H0.place
    subst hv6
    have H := Lib.hid H0
    clear H0
    obtain ⟨k, hk⟩ := (one_f s i H.out.at_ (by omega)).rounds
    cases hf : frameL (s.data.toList.drop i) with
    | none =>
      rw [hf] at hk
      go_wp2_with fail
      refine (postbagref10_one.calls k s i _ _ _ _ _ _ hk).mono ?_
      rintro e w1 ⟨rfl, hb⟩
      have hfin : rest = [] := by rw [H.out.cur, scanT_none hf]
      have htot := H.out.tot
      rw [hfin, List.append_nil] at htot
      have HB := Lib.hid hb
      have HT := Lib.hid htot
      clear hk hf hb hfin htot
      go_wp2
      go_quiet (fail)
      go_wp2
      go_ret2
      refine ⟨_, _, rfl, ?_, ?_, ?_⟩
      · apply Kd.R_drewN; apply Kd.R_alloc; rw [← HT.out]; exact Kd.R_below H.out.l1 HB.out
      · apply Kd.R_drewN; apply Kd.R_alloc; rw [← HT.out]; exact Kd.R_below H.out.l2 HB.out
      · apply pw_below_drewN; exact (below_step H.out.below HB.out).alloc (Nat.le_trans H.out.below.size HB.out.size) _
    | some x =>
      obtain ⟨kk, n, m⟩ := x
      rw [hf] at hk
      have hS : oneAns s i (some (kk, n, m)) = ((kk : Int), (n : Int), (i : Int), ⟨(((s.data.toList.drop i).drop 14).take m).toArray⟩, ((i + 18 + m : Nat) : Int)) := rfl
      rw [hS] at hk
      have hl18 := (frameL_some hf).2.1
      rw [List.length_drop, toList_length] at hl18
      have hcur := H.out.cur
      rw [scanT_some hf] at hcur
      obtain ⟨q, hq⟩ : ∃ q : Int, ((i + 18 + m : Nat) : Int) = q := ⟨_, rfl⟩
      rw [hq] at hk
      have q0 : (q == 0) = false := by rw [beq_eq_false_iff_ne]; omega
      have HQ := Lib.hid hq
      clear hq
      obtain ⟨B, hB⟩ : ∃ B : ByteArray, ⟨(((s.data.toList.drop i).drop 14).take m).toArray⟩ = B := ⟨_, rfl⟩
      rw [hB] at hk
      have HBo := Lib.hid hB
      clear hB
      rcases List.eq_nil_or_concat done with hd | ⟨d0, y, hd⟩
      · subst hd
        have hif : rest = ⟨kk, n, i, ((s.data.toList.drop i).drop 14).take m, i + 18 + m⟩ :: scanT ((s.data.toList.drop i).drop (18 + m)) (i + 18 + m) (some n) := by rw [hcur, if_pos (.inl rfl)]
        clear hcur
        go_wp2_with fail
        refine (postbagref10_one.calls k s i _ _ _ _ _ _ hk).mono ?_
        rintro e w1 ⟨rfl, hb⟩
        obtain ⟨S4, C4, hv4⟩ := Kd.R_slice H.out.l1
        obtain ⟨S5, C5, hv5⟩ := Kd.R_slice H.out.l2
        subst hv4 hv5
        have HB := Lib.hid hb
        clear hk hf hb
        go_wp2
        go_quiet (fail)
        go_upto_region 7 with fail
        have hin := hif
        obtain ⟨X, hX⟩ : ∃ X : Seen, X = ⟨kk, n, i, ((s.data.toList.drop i).drop 14).take m, i + 18 + m⟩ := ⟨_, rfl⟩
        have hX1 : s49 X = ⟨(kk : Int), (n : Int), (i : Int), B⟩ := by rw [hX, ← HBo.out]; rfl
        have hX2 : nx X = q := by rw [hX, ← HQ.out]; rfl
        have hX3 : X.number = n := by rw [hX]
        have HX1 := Lib.hid hX1
        have HX2 := Lib.hid hX2
        have HX3 := Lib.hid hX3
        rw [← hX] at hin
        have HIN := Lib.hid hin
        clear hin hif hX hX1 hX2 hX3
        have hdl : (([] : List Seen).length + rest.length) * 18 ≤ s.size := by
          have := congrArg List.length H.out.tot
          rw [List.length_append] at this
          omega
        have hbx := ((heap_alloc_new w1 (.cells #[.int .i64 kk, .int .i64 n, .int .i64 i, .string B] 49)))
        have f1 := Kd.R_drewN (Kd.R_alloc (Kd.R_below H.out.l1 HB.out) (.cells #[.int .i64 kk, .int .i64 n, .int .i64 i, .string B] 49)) nq
        have f2 := Kd.R_drewN (Kd.R_alloc (Kd.R_below H.out.l2 HB.out) (.cells #[.int .i64 kk, .int .i64 n, .int .i64 i, .string B] 49)) nq
        have f3 : Below w.heap.size w ((w1.alloc (.cells #[.int .i64 kk, .int .i64 n, .int .i64 i, .string B] 49)).drewN nq) := by
          apply pw_below_drewN; exact (below_step H.out.below HB.out).alloc (Nat.le_trans H.out.below.size HB.out.size) _
        have hbx2 : ((w1.alloc (.cells #[.int .i64 kk, .int .i64 n, .int .i64 i, .string B] 49)).drewN nq).heap[w1.heap.size]? = some (.cells #[.int .i64 kk, .int .i64 n, .int .i64 i, .string B] 49 (0, 0)) := (blk_drewN (w := (w1.alloc (.cells #[.int .i64 kk, .int .i64 n, .int .i64 i, .string B] 49))) hbx nq)
        clear hbx HB
        generalize w1.heap.size = gb at *
        generalize ((w1.alloc (.cells #[.int .i64 kk, .int .i64 n, .int .i64 i, .string B] 49)).drewN nq) = wx at *
        have k0 := cell_of_row wx _ 0 _ _ _ hbx2
        have k1 := cell_of_row wx _ 1 _ _ _ hbx2
        have k2 := cell_of_row wx _ 2 _ _ _ hbx2
        have k3 := cell_of_row wx _ 3 _ _ _ hbx2
        have F1 := Lib.hid f1
        have F2 := Lib.hid f2
        have F3 := Lib.hid f3
        have hsz3 := f3.size
        clear f1 f2 f3 hbx2
        go_wp2_with (at_builtin; refine Kd.R_append k49 (w0 := w) w.heap.size rfl (.tmp 37) (.tmp 39) 43 49 (.agg #[(.int .i64 0), (.int .i64 0), (.int .i64 0), (.string ⟨#[]⟩)]) 40 rfl Try.underlying43 info49 rfl (by decide) (by omega) (.slice S4 0 C4) (([] : List Seen).map s49) (s49 X) [.int .i64 kk, .int .i64 n, .int .i64 i, .string B] (fun _ => True) (fun _ => False) rfl (by first | (go_simp; done) | (go_simp; rfl)) ?aP (fun _ hk => hk.elim) ?aF ?aO ?aB ?aS ?aL ?_)
        case aP => rw [HX1.out]; exact k49_mkM _ _ _ (⟨kk, n, i, B⟩ : S49)
        case aF => intro _ _; trivial
        case aO => exact F1.out
        case aB => exact F3.out
        case aS => omega
        case aL => rw [List.length_map]; omega
        intro v1 w2 hA hbl1 hg1 hat1
        clear hat1 k0 k1 k2 k3
        have g2 := Kd.R_mono (ok' := fun _ => True) (Kd.R_grown (R_apart F2.out F1.out (by decide)) hg1 (fun k hk => hk.2)) (fun _ _ => trivial)
        have G1 := Lib.hid hA
        have G2 := Lib.hid g2
        have G3 := Lib.hid hbl1
        have hsz4 := hbl1.size
        clear g2 hA hbl1 hg1
        go_wp2_with (at_builtin; refine Kd.R_append (Kd.int .i64) (w0 := w) w.heap.size rfl (.tmp 41) (.tmp 43) 44 3 (.int .i64 0) 8 rfl Try.underlying44 info3 rfl (by decide) (by omega) (.slice S5 0 C5) (([] : List Seen).map nx) (nx X) [.int .i64 q] (fun _ => True) (fun _ => False) rfl (by first | (go_simp; done) | (go_simp; rfl)) ?aP (fun _ hk => hk.elim) ?aF ?aO ?aB ?aS ?aL ?_)
        case aP => rw [HX2.out]; rfl
        case aF => intro _ _; trivial
        case aO => exact G2.out
        case aB => exact G3.out
        case aS => omega
        case aL => rw [List.length_map]; omega
        intro v2 w3 hA hbl2 hg2 hat2
        clear hat2
        have g1 := Kd.R_mono (ok' := fun _ => True) (Kd.R_grown (R_apart G1.out G2.out (by decide)) hg2 (fun k hk => hk.2)) (fun _ _ => trivial)
        have J1 := Lib.hid g1
        have J2 := Lib.hid hA
        have J3 := Lib.hid hbl2
        clear g1 hA hbl2 hg2
        go_wp2
        go_roundg ((scanT ((s.data.toList.drop i).drop (18 + m)) (i + 18 + m) (some n)).length + 1)
        case measure => have := H.out.len; rw [HIN.out, List.length_cons] at this; omega
        case rel =>
          refine ⟨([] : List Seen) ++ [X], scanT ((s.data.toList.drop i).drop (18 + m)) (i + 18 + m) (some n), i + 18 + m, ⟨rfl, ?_, ?_, by omega, by rw [HQ.out], ?_, ?_, J3.out⟩⟩
          · rw [← H.out.tot, HIN.out]; simp
          · have e1 : (s.data.toList.drop i).drop (18 + m) = s.data.toList.drop (i + 18 + m) := by rw [List.drop_drop]; congr 1; omega
            have e2 : lastNo (([] : List Seen) ++ [X]) = some n := by unfold lastNo; rw [List.getLast?_append]; simp [HX3.out]
            rw [e1, e2]
          · rw [List.map_append]; exact J1.out
          · rw [List.map_append]; exact J2.out
      · rw [List.concat_eq_append] at hd
        subst hd
        have hlast : lastNo (d0 ++ [y]) = some y.number := by unfold lastNo; rw [List.getLast?_append]; rfl
        rw [hlast] at hcur
        obtain ⟨S4, C4, hv4, hle4, hC4⟩ := Kd.R_reads H.out.l1
        obtain ⟨ad, hS4, _⟩ := at_T49 hC4 (d0.length : Int) (by omega) (by rw [List.length_map, List.length_append, List.length_singleton]; omega)
        subst hS4
        have hlen1 : (List.map s49 (d0 ++ [y])).length = d0.length + 1 := by simp
        rw [hlen1] at hv4 hC4
        obtain ⟨S5, C5, hv5⟩ := Kd.R_slice H.out.l2
        have hlen2 : (List.map nx (d0 ++ [y])).length = d0.length + 1 := by simp
        rw [hlen2] at hv5
        subst hv4 hv5
        have hdn : d0.length * 18 + 18 ≤ s.size := by
          have := congrArg List.length H.out.tot
          simp at this
          omega
        have hrd : rd_T49 (List.map s49 (d0 ++ [y])) ((d0.length : Nat) : Int) = s49 y := by
          unfold rd_T49
          rw [Int.toNat_natCast, List.map_append, List.getD_eq_getElem?_getD, List.getElem?_append_right (by simp)]
          simp
        have hyb : y.number < 4294967295 := scanT_number _ _ _ y (by rw [← H.out.tot]; simp)
        by_cases hny : n = y.number + 1
        · have n0 : ((n : Int) != (y.number : Int) + 1) = false := by rw [bne_eq_false_iff_eq]; omega
          have hif : rest = ⟨kk, n, i, ((s.data.toList.drop i).drop 14).take m, i + 18 + m⟩ :: scanT ((s.data.toList.drop i).drop (18 + m)) (i + 18 + m) (some n) := by rw [hcur, if_pos (.inr (by rw [hny]; rfl))]
          clear hcur hny
          have HC4 := Lib.hid hC4
          have HRD := Lib.hid hrd
          clear hC4 hrd hlast hlen1 hlen2 hle4
          go_wp2_with fail
          refine (postbagref10_one.calls k s i _ _ _ _ _ _ hk).mono ?_
          rintro e w1 ⟨rfl, hb⟩
          have hC := Kd.C_below HC4.out (hb.alloc hb.size (.cells #[.int .i64 kk, .int .i64 n, .int .i64 i, .string B] 49))
          obtain ⟨ad', hS', _, hcell, _, _⟩ := at_T49 hC (d0.length : Int) (by omega) (by omega)
          obtain rfl := Option.some.inj hS'
          rw [HRD.out, Int.toNat_natCast] at hcell
          replace hcell : (w1.alloc (.cells #[.int .i64 kk, .int .i64 n, .int .i64 i, .string B] 49)).cell? ⟨(ad.add (d0.length * 4)).block, (ad.add (d0.length * 4)).off + 1, none⟩ = some (.int .i64 (y.number : Int)) := hcell
          clear hS' hC
          have HB := Lib.hid hb
          clear hk hf hb
          go_wp2
          go_quiet (fail)
          go_upto_region 7 with fail
          have hin := hif
          obtain ⟨X, hX⟩ : ∃ X : Seen, X = ⟨kk, n, i, ((s.data.toList.drop i).drop 14).take m, i + 18 + m⟩ := ⟨_, rfl⟩
          have hX1 : s49 X = ⟨(kk : Int), (n : Int), (i : Int), B⟩ := by rw [hX, ← HBo.out]; rfl
          have hX2 : nx X = q := by rw [hX, ← HQ.out]; rfl
          have hX3 : X.number = n := by rw [hX]
          have HX1 := Lib.hid hX1
          have HX2 := Lib.hid hX2
          have HX3 := Lib.hid hX3
          rw [← hX] at hin
          have HIN := Lib.hid hin
          clear hin hif hX hX1 hX2 hX3
          have hdl : ((d0 ++ [y]).length + rest.length) * 18 ≤ s.size := by
            have := congrArg List.length H.out.tot
            rw [List.length_append] at this
            omega
          have hbx := ((heap_alloc_new w1 (.cells #[.int .i64 kk, .int .i64 n, .int .i64 i, .string B] 49)))
          have f1 := Kd.R_drewN (Kd.R_alloc (Kd.R_below H.out.l1 HB.out) (.cells #[.int .i64 kk, .int .i64 n, .int .i64 i, .string B] 49)) nq
          have f2 := Kd.R_drewN (Kd.R_alloc (Kd.R_below H.out.l2 HB.out) (.cells #[.int .i64 kk, .int .i64 n, .int .i64 i, .string B] 49)) nq
          have f3 : Below w.heap.size w ((w1.alloc (.cells #[.int .i64 kk, .int .i64 n, .int .i64 i, .string B] 49)).drewN nq) := by
            apply pw_below_drewN; exact (below_step H.out.below HB.out).alloc (Nat.le_trans H.out.below.size HB.out.size) _
          have hbx2 : ((w1.alloc (.cells #[.int .i64 kk, .int .i64 n, .int .i64 i, .string B] 49)).drewN nq).heap[w1.heap.size]? = some (.cells #[.int .i64 kk, .int .i64 n, .int .i64 i, .string B] 49 (0, 0)) := (blk_drewN (w := (w1.alloc (.cells #[.int .i64 kk, .int .i64 n, .int .i64 i, .string B] 49))) hbx nq)
          clear hbx HB
          generalize w1.heap.size = gb at *
          generalize ((w1.alloc (.cells #[.int .i64 kk, .int .i64 n, .int .i64 i, .string B] 49)).drewN nq) = wx at *
          have k0 := cell_of_row wx _ 0 _ _ _ hbx2
          have k1 := cell_of_row wx _ 1 _ _ _ hbx2
          have k2 := cell_of_row wx _ 2 _ _ _ hbx2
          have k3 := cell_of_row wx _ 3 _ _ _ hbx2
          have F1 := Lib.hid f1
          have F2 := Lib.hid f2
          have F3 := Lib.hid f3
          have hsz3 := f3.size
          clear f1 f2 f3 hbx2
          go_wp2_with (at_builtin; refine Kd.R_append k49 (w0 := w) w.heap.size rfl (.tmp 37) (.tmp 39) 43 49 (.agg #[(.int .i64 0), (.int .i64 0), (.int .i64 0), (.string ⟨#[]⟩)]) 40 rfl Try.underlying43 info49 rfl (by decide) (by omega) (.slice (some ad) (d0.length + 1) C4) ((d0 ++ [y]).map s49) (s49 X) [.int .i64 kk, .int .i64 n, .int .i64 i, .string B] (fun _ => True) (fun _ => False) rfl (by first | (go_simp; done) | (go_simp; rfl)) ?aP (fun _ hk => hk.elim) ?aF ?aO ?aB ?aS ?aL ?_)
          case aP => rw [HX1.out]; exact k49_mkM _ _ _ (⟨kk, n, i, B⟩ : S49)
          case aF => intro _ _; trivial
          case aO => exact F1.out
          case aB => exact F3.out
          case aS => omega
          case aL => rw [List.length_map]; omega
          intro v1 w2 hA hbl1 hg1 hat1
          clear hat1 k0 k1 k2 k3
          have g2 := Kd.R_mono (ok' := fun _ => True) (Kd.R_grown (R_apart F2.out F1.out (by decide)) hg1 (fun k hk => hk.2)) (fun _ _ => trivial)
          have G1 := Lib.hid hA
          have G2 := Lib.hid g2
          have G3 := Lib.hid hbl1
          have hsz4 := hbl1.size
          clear g2 hA hbl1 hg1
          go_wp2_with (at_builtin; refine Kd.R_append (Kd.int .i64) (w0 := w) w.heap.size rfl (.tmp 41) (.tmp 43) 44 3 (.int .i64 0) 8 rfl Try.underlying44 info3 rfl (by decide) (by omega) (.slice S5 (d0.length + 1) C5) ((d0 ++ [y]).map nx) (nx X) [.int .i64 q] (fun _ => True) (fun _ => False) rfl (by first | (go_simp; done) | (go_simp; rfl)) ?aP (fun _ hk => hk.elim) ?aF ?aO ?aB ?aS ?aL ?_)
          case aP => rw [HX2.out]; rfl
          case aF => intro _ _; trivial
          case aO => exact G2.out
          case aB => exact G3.out
          case aS => omega
          case aL => rw [List.length_map]; omega
          intro v2 w3 hA hbl2 hg2 hat2
          clear hat2
          have g1 := Kd.R_mono (ok' := fun _ => True) (Kd.R_grown (R_apart G1.out G2.out (by decide)) hg2 (fun k hk => hk.2)) (fun _ _ => trivial)
          have J1 := Lib.hid g1
          have J2 := Lib.hid hA
          have J3 := Lib.hid hbl2
          clear g1 hA hbl2 hg2
          go_wp2
          go_roundg ((scanT ((s.data.toList.drop i).drop (18 + m)) (i + 18 + m) (some n)).length + 1)
          case measure => have := H.out.len; rw [HIN.out, List.length_cons] at this; omega
          case rel =>
            refine ⟨(d0 ++ [y]) ++ [X], scanT ((s.data.toList.drop i).drop (18 + m)) (i + 18 + m) (some n), i + 18 + m, ⟨rfl, ?_, ?_, by omega, by rw [HQ.out], ?_, ?_, J3.out⟩⟩
            · rw [← H.out.tot, HIN.out]; simp
            · have e1 : (s.data.toList.drop i).drop (18 + m) = s.data.toList.drop (i + 18 + m) := by rw [List.drop_drop]; congr 1; omega
              have e2 : lastNo ((d0 ++ [y]) ++ [X]) = some n := by unfold lastNo; rw [List.getLast?_append]; simp [HX3.out]
              rw [e1, e2]
            · first | (rw [List.map_append]; exact J1.out) | (rw [show ((d0 ++ [y]) ++ [X]).map s49 = d0.map s49 ++ [s49 y, s49 X] from by simp]; exact J1.out)
            · first | (rw [List.map_append]; exact J2.out) | (rw [show ((d0 ++ [y]) ++ [X]).map nx = d0.map nx ++ [nx y, nx X] from by simp]; exact J2.out)
        · have n0 : ((n : Int) != (y.number : Int) + 1) = true := by rw [bne_iff_ne]; omega
          have hif : rest = [] := by rw [hcur, if_neg (by intro h; rcases h with h | h; exact absurd h (by simp); exact hny (by simpa using h.symm))]
          clear hcur hny
          have HIF := Lib.hid hif
          clear hif
          have HC4 := Lib.hid hC4
          have HRD := Lib.hid hrd
          clear hC4 hrd hlast hlen1 hlen2 hle4
          go_wp2_with fail
          refine (postbagref10_one.calls k s i _ _ _ _ _ _ hk).mono ?_
          rintro e w1 ⟨rfl, hb⟩
          have hC := Kd.C_below HC4.out (hb.alloc hb.size (.cells #[.int .i64 kk, .int .i64 n, .int .i64 i, .string B] 49))
          obtain ⟨ad', hS', _, hcell, _, _⟩ := at_T49 hC (d0.length : Int) (by omega) (by omega)
          obtain rfl := Option.some.inj hS'
          rw [HRD.out, Int.toNat_natCast] at hcell
          replace hcell : (w1.alloc (.cells #[.int .i64 kk, .int .i64 n, .int .i64 i, .string B] 49)).cell? ⟨(ad.add (d0.length * 4)).block, (ad.add (d0.length * 4)).off + 1, none⟩ = some (.int .i64 (y.number : Int)) := hcell
          clear hS' hC
          have HB := Lib.hid hb
          clear hk hf hb
          go_wp2
          go_quiet (fail)
          go_wp2
          go_ret2
          have htot := H.out.tot
          rw [HIF.out, List.append_nil] at htot
          have HT := Lib.hid htot
          refine ⟨_, _, rfl, ?_, ?_, ?_⟩
          · apply Kd.R_drewN; apply Kd.R_alloc; rw [← HT.out]; exact Kd.R_below H.out.l1 HB.out
          · apply Kd.R_drewN; apply Kd.R_alloc; rw [← HT.out]; exact Kd.R_below H.out.l2 HB.out
          · apply pw_below_drewN; exact (below_step H.out.below HB.out).alloc (Nat.le_trans H.out.below.size HB.out.size) _
/-- In the print's form. -/
def postbagref10_Scan.f (a0 : ByteArray) : Option (List S49 × List Int) :=
  if a0.size ≤ 1099511627776 then some ((scanT a0.data.toList 0 none).map s49, (scanT a0.data.toList 0 none).map nx) else none
theorem postbagref10_Scan.calls (a0 : ByteArray) (r1 : List S49) (r2 : List Int) (w : World) (h : postbagref10_Scan.f a0 = some (r1, r2)) :
    Calls Try.prog 22 #[.string a0] w fun e w' => ∃ v0_ v1_ : Value, e = .returned (.tuple #[v0_, v1_]) ∧ Kd.R k49 49 w' w.heap.size (fun _ => True) v0_ r1 ∧ Kd.R (Kd.int .i64) 3 w' w.heap.size (fun _ => True) v1_ r2 ∧ Below w.heap.size w w' := by
  unfold postbagref10_Scan.f at h
  split at h
  · rename_i hg
    simp only [Option.some.injEq, Prod.mk.injEq] at h
    obtain ⟨rfl, rfl⟩ := h
    exact rscan_calls a0 w hg
  · exact absurd h (by simp)
end Go.Proofs.Ytcndhgpaoihblaa.Fr
