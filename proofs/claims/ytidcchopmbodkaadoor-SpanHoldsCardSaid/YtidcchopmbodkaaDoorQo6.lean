import Derived.Test.YtidcchopmbodkaaDoorQo2
import Derived.Test.YtidcchopmbodkaaDoorQo5
import Derived.WalkMore
import Derived.Test.YtidcchopmbodkaaDoorQo3
section
namespace Go.Proofs.YtidcchopmbodkaaDoor.Sp
open Go.RowKit Go.Proofs.YtidcchopmbodkaaDoorW.PrintWords Go.Proofs.YtidcchopmbodkaaDoorW.PrintLast Go.Proofs.YtidcchopmbodkaaDoorW.PrintMore
open Par Canon
def finA : Option (List Rg) → List S28 × Int
  | none => ([], 40)
  | some l => if 64 < l.length then ([], 41) else (l.map un, 0)
def parseA (a0 : ByteArray) : List S28 × Int := if 4096 < a0.size then ([], 2) else finA (manyP (a0.size + 1) a0.data.toList)
def mz (s m : Value) : Nat := match m with
  | .bool true => (match s with
    | .string b => b.size + 1
    | _ => 0)
  | _ => 0
theorem mz_t (b : ByteArray) : mz (.string b) (.bool true) = b.size + 1 := rfl
theorem mz_f (b : ByteArray) : mz (.string b) (.bool false) = 0 := rfl
theorem manyP_succ (k : Nat) (u : List UInt8) : manyP (k + 1) u = (oneP (cutB 44 u).1).bind fun r => if (cutB 44 u).2.2 = true then (manyP k (cutB 44 u).2.1).map (r :: ·) else some [r] := rfl
theorem many_fuel (k : Nat) : ∀ (j : Nat) (u : List UInt8), u.length < k → u.length < j → manyP k u = manyP j u := by
  induction k with
  | zero => intro j u h; omega
  | succ k ih =>
    intro j u hk hj
    obtain ⟨j, rfl⟩ : ∃ i, j = i + 1 := ⟨j - 1, by omega⟩
    rw [manyP_succ, manyP_succ]
    rcases cut_is 44 u with ⟨h1, _⟩ | ⟨h1, h2, _⟩
    · simp [h1]
    · have hl : u.length = (cutB 44 u).1.length + 1 + (cutB 44 u).2.1.length := by
        have := congrArg List.length h2
        simp only [List.length_append, List.length_cons] at this
        omega
      rw [ih j (cutB 44 u).2.1 (by omega) (by omega)]
theorem oneP_eq (p : ByteArray) : oneP p.data.toList = (endP (cut1 58 p).data.toList).bind fun a => if cut3 58 p = false then some ((a : Int), (a : Int)) else (endP (cut1 58 (cut2 58 p)).data.toList).bind fun b => if cut3 58 (cut2 58 p) = false then some ((a : Int), (b : Int)) else none := rfl
theorem step_M (u : ByteArray) (acc : List Rg) (k : Nat) (hk : u.size ≤ k) : (manyP (k + 1) u.data.toList).map (acc ++ ·) =
    match oneP (cut1 44 u).data.toList with
    | none => none
    | some r => if cut3 44 u = true then (manyP ((cut2 44 u).size + 1) (cut2 44 u).data.toList).map (acc ++ [r] ++ ·) else some (acc ++ [r]) := by
  rw [manyP_succ]
  show ((oneP (cut1 44 u).data.toList).bind _).map _ = _
  cases oneP (cut1 44 u).data.toList with
  | none => rfl
  | some r =>
    show (if cut3 44 u = true then (manyP k (cut2 44 u).data.toList).map (r :: ·) else some [r]).map _ = _
    by_cases h : cut3 44 u = true
    · rw [if_pos h]
      show _ = if cut3 44 u = true then _ else _
      rw [if_pos h]
      rcases cut_cases 44 u with ⟨_, _, _, h4⟩ | ⟨i, _, hi, _, h4, _⟩
      · rw [h4] at h; cases h
      · have hs : (cut2 44 u).data.toList.length = (cut2 44 u).size := Array.length_toList
        have hs2 : (cut2 44 u).size = u.size - (i + 1) := by rw [h4]; simp
        rw [many_fuel k ((cut2 44 u).size + 1) _ (by omega) (by omega), Option.map_map]
        congr 1
        funext x
        simp
    · rw [if_neg h]
      show _ = if cut3 44 u = true then _ else _
      rw [if_neg h]
      rfl
theorem two_at (x y : Value) (W : World) (n : Nat) (hn : n = W.heap.size) : ∀ (j : Nat) (u : Value), [x, y][j]? = some u → (W.alloc (.cells #[x, y] 28)).cell? (Addr.add ⟨n, 0, none⟩ j) = some u := by
  intro j u hu
  subst hn
  have hj : j < 2 := (List.getElem?_eq_some_iff.1 hu).1
  rcases (by omega : j = 0 ∨ j = 1) with rfl | rfl
  · rw [← hu]; simp [Addr.add]
  · rw [← hu]; simp [Addr.add]
set_option maxHeartbeats 400000 in
set_option maxRecDepth 100000 in
theorem parse_calls (a0 : ByteArray) (w : World) :
    Calls Tryd.prog 23 #[.string a0] w fun e w' => ∃ v0_ : Value, e = .returned (.tuple #[v0_, .int .i64 (parseA a0).2]) ∧ w'.ownsRow w.heap.size 28 2 v0_ (parseA a0).1.length (flat (parseA a0).1) ∧ Below w.heap.size w w' := by
  by_cases h1 : 4096 < a0.size
  · have e : parseA a0 = ([], 2) := by unfold parseA; rw [if_pos h1]
    rw [e]
    have d1 : decide ((4096 : Int) < (a0.size : Int)) = true := decide_eq_true (by omega)
    clear e
    go_enter Tryd.func23, Tryd.ntmps23
    go_wp2_with fail
    go_step3
    go_wp2_with fail
    (try simp only [Exit.noGoto])
    go_ret2
    exact ⟨_, rfl, own_nil _ _ _ _, Below.refl _ _⟩
  · obtain ⟨P, hP⟩ : ∃ P, P = parseA a0 := ⟨_, rfl⟩
    obtain ⟨M, hM⟩ : ∃ M, M = manyP (a0.size + 1) a0.data.toList := ⟨_, rfl⟩
    have hPM : P = finA M := by rw [hP, hM]; unfold parseA; rw [if_neg h1]
    rw [← hP]
    have HM := Lib.hid hM
    have HPM := Lib.hid hPM
    clear hP hM hPM
    have d1 : decide ((4096 : Int) < (a0.size : Int)) = false := decide_eq_false (by omega)
    go_enter Tryd.func23, Tryd.ntmps23
    go_wp2_with fail
    go_step3
    go_wp2_with fail
    obtain ⟨i0, hi0, hz⟩ := info28x
    have HI := Lib.hid hi0
    have HZ := Lib.hid hz
    have HW := Lib.hid (Below.refl w.heap.size w)
    clear hi0 hz
    go_step3
    go_wp2_with fail
    go_loopg [0, 4, 5] (a0.size + 1) (fun n s o m W => ∃ (u : ByteArray) (acc : List S28) (b : Bool), n = mz s m ∧ s = .string u ∧ m = .bool b ∧ Aside0 (W.ownsRow w.heap.size 28 2 o acc.length (flat acc)) ∧ Aside0 (Below w.heap.size w W) ∧
      acc.length + u.size ≤ a0.size + 1 ∧ u.size ≤ 4096 ∧ Aside0 (M = if b = true then (manyP (u.size + 1) u.data.toList).map (acc.map pr ++ ·) else some (acc.map pr)) ∧ Aside0 (b = true → acc.length + u.size ≤ a0.size))
    case atStart => exact ⟨a0, [], true, rfl, rfl, rfl, ⟨own_nil _ _ _ _⟩, ⟨HW.out⟩, by simp, by omega, ⟨by rw [if_pos rfl, HM.out]; simp⟩, ⟨fun _ => by simp⟩⟩
    case round =>
      obtain ⟨u, acc, b, hn, rfl, rfl, ho, hB, hau, hu, hMM, hbb⟩ := hrel
      cases b with
      | false =>
        have hMs := hMM.out
        rw [if_neg (by simp)] at hMs
        have hm : (acc.map pr).map un = acc := by rw [List.map_map]; exact (List.map_congr_left fun x _ => rfl).trans (List.map_id acc)
        obtain ⟨A4, c4, rfl⟩ := own_slice ho.out
        by_cases h64 : 64 < acc.length
        · have hPP : P = ([], 41) := by
            rw [HPM.out, hMs]
            show (if 64 < (acc.map pr).length then _ else _) = _
            rw [if_pos (by rw [List.length_map]; exact h64)]
          have d2 : decide ((64 : Int) < (acc.length : Int)) = true := decide_eq_true (by omega)
          clear hMM hMs HPM hm hbb
          subst hPP
          go_wp2_with fail
          (try simp only [Exit.noGoto])
          go_ret2
          exact ⟨_, rfl, own_nil _ _ _ _, hB.out⟩
        · have hPP : P = (acc, 0) := by
            rw [HPM.out, hMs]
            show (if 64 < (acc.map pr).length then _ else _) = _
            rw [if_neg (by rw [List.length_map]; exact h64), hm]
          have d2 : decide ((64 : Int) < (acc.length : Int)) = false := decide_eq_false (by omega)
          clear hMM hMs HPM hm hbb
          subst hPP
          go_wp2_with fail
          (try simp only [Exit.noGoto])
          go_ret2
          exact ⟨_, rfl, ho.out, hB.out⟩
      | true =>
        have hau' := hbb.out rfl
        have hMs := hMM.out
        rw [if_pos rfl, step_M u _ u.size (Nat.le_refl _), oneP_eq] at hMs
        have HMS := Lib.hid hMs
        clear hMM hbb hMs
        have HC := Lib.hid (cut_cases 44 u)
        have hcs : (cut2 44 u).size ≤ u.size ∧ (cut3 44 u = true → (cut2 44 u).size + 1 ≤ u.size) ∧ mz (.string (cut2 44 u)) (.bool (cut3 44 u)) < u.size + 1 := by
          rcases HC.out with ⟨_, _, h3, h4⟩ | ⟨i, _, hi, _, h, h4⟩
          · rw [h3, h4]; exact ⟨Nat.zero_le _, fun h => by simp at h, by rw [mz_f]; omega⟩
          · rw [h, h4, mz_t]; simp; omega
        obtain ⟨hcs1, hcs2, hcs3⟩ := hcs
        have HCS2 := Lib.hid hcs2
        clear hcs2
        have hps : (cut1 44 u).size ≤ 4096 := by
          rcases HC.out with ⟨_, h, _, _⟩ | ⟨i, _, hi, h, _, _⟩
          · rw [h]; exact hu
          · rw [h]; simp; omega
        have hbs : (cut2 58 (cut1 44 u)).size ≤ 4096 := by
          rcases cut_cases 58 (cut1 44 u) with ⟨_, _, h, _⟩ | ⟨i, _, hi, _, h, _⟩
          · rw [h]; exact Nat.zero_le _
          · rw [h]; simp; omega
        go_wp2_with (go_at_call 50; refine (cut_calls 44 u _ (by unfold maxLen; omega)).mono ?_; rintro e w' ⟨rfl, n1, rfl⟩)
        have ho1 := own_alloc (pw_own_drewN ho.out n1) (.cells #[.int .i64 0, .int .i64 0] 73)
        have hb1 := below_alloc (pw_below_drewN hB.out n1) (.cells #[.int .i64 0, .int .i64 0] 73)
        have hq0 : w.heap.size ≤ wr.heap.size := hB.out.size
        have hh1 : ((wr.drewN n1).alloc (.cells #[.int .i64 0, .int .i64 0] 73)).heap[wr.heap.size]? = some (.cells #[.int .i64 0, .int .i64 0] 73 (0, 0)) := heap_alloc_new _ _
        obtain ⟨W1, hW1⟩ : ∃ W1, W1 = ((wr.drewN n1).alloc (.cells #[.int .i64 0, .int .i64 0] 73)) := ⟨_, rfl⟩
        rw [← hW1] at ho1 hb1 hh1
        rw [← hW1]
        have HO1 := Lib.hid ho1
        have HB1 := Lib.hid hb1
        generalize wr.heap.size = q at *
        have HH1 := Lib.hid hh1
        clear hW1 ho1 hb1 hh1 ho hB
        generalize hp : cut1 44 u = p at *
        have HP := Lib.hid hp
        clear hp
        have he := end_f (cut1 58 p) 13 (by omega)
        cases hE : endP (cut1 58 p).data.toList with
        | none =>
          rw [hE] at HMS
          obtain ⟨r1, hr⟩ : ∃ r1, endA (cut1 58 p).data.toList = (r1, false) := ⟨_, Prod.ext rfl (endA_none hE)⟩
          rw [hr] at he
          have hPP : P = ([], 40) := by rw [HPM.out, HMS.out]; rfl
          clear HMS HPM hr hE
          subst hPP
          refine wp_loop_rounds 3 ?_
          rw [rounds_succ]
          go_wp2_with (first | (go_at_call 50; refine (cut_calls 58 p _ (by unfold maxLen; omega)).mono ?_; rintro e w' ⟨rfl, n2, rfl⟩) | (go_at_call 51; refine (span_end.calls 13 _ _ _ _ he).mono ?_; rintro e w' ⟨rfl, hd⟩; obtain ⟨n3, rfl⟩ := hd.out))
          (try simp only [Exit.noGoto])
          go_ret2
          exact ⟨_, rfl, own_nil _ _ _ _, pw_below_drewN HB1.out _⟩
        | some a =>
          rw [endA_some hE] at he
          rw [hE] at HMS
          have ha := endP_le hE
          have c0 : W1.cell? ⟨q, 0, none⟩ = some (.int .i64 0) := cell_of_row W1 q 0 _ _ _ HH1.out
          have f0 : W1.frozen? ⟨q, 0, none⟩ = false := frozen_of_row W1 q 0 _ _ HH1.out
          have hqW : q < W1.heap.size := (Array.getElem?_eq_some_iff.1 HH1.out).1
          have hne := own_ne HO1.out HH1.out (by decide)
          obtain ⟨A4, c4, rfl⟩ := own_slice HO1.out
          clear hE
          cases hS : cut3 58 p with
          | false =>
            have HS := Lib.hid hS
            clear hS
            refine wp_loop_rounds 3 ?_
            rw [rounds_succ]
            go_upto_region 17 with (first | (go_at_call 50; refine (cut_calls 58 p _ (by unfold maxLen; omega)).mono ?_; rintro e w' ⟨rfl, n2, rfl⟩; rw [HS.out]) | (go_at_call 51; refine (span_end.calls 13 _ _ _ _ he).mono ?_; rintro e w' ⟨rfl, hd⟩; obtain ⟨n3, rfl⟩ := hd.out))
            have ho2 := own_setCell (p := ⟨q, 0, none⟩) (pw_own_drewN HO1.out (n2 + n3)) hne (.int .i64 (a : Int))
            have hb2 := (pw_below_drewN HB1.out (n2 + n3)).setCell (p := ⟨q, 0, none⟩) hq0 (.int .i64 (a : Int))
            have hh2 := heap_setCell_same (W1.drewN (n2 + n3)) q 0 _ _ (.int .i64 (a : Int)) HH1.out
            obtain ⟨W2, hW2⟩ : ∃ W2, W2 = (W1.drewN (n2 + n3)).setCell ⟨q, 0, none⟩ (.int .i64 (a : Int)) := ⟨_, rfl⟩
            rw [← hW2] at ho2 hb2 hh2
            rw [← hW2]
            have k0 : W2.cell? ⟨q, 0, none⟩ = some (.int .i64 (a : Int)) := cell_of_row W2 q 0 _ _ _ hh2
            have HO2 := Lib.hid ho2
            have HB2 := Lib.hid hb2
            have hb2s := hb2.size
            clear hW2 ho2 hb2 hh2 c0 f0 hqW hne HO1 HB1 HH1 he
            go_wp2_with (at_builtin; go_loud (refine wpList_append_own _ rfl _ _ 23 rfl w.heap.size 28 i0 _ 2 16 Tryd.underlying23 HI.out HZ.out.1 HZ.out.2.1 HZ.out.2.2 rfl (by decide) (.slice A4 acc.length c4) acc.length (flat acc) (by rfl) (own_alloc HO2.out _) ⟨W2.heap.size, 0, none⟩ 1 1 [.int .i64 (a : Int), .int .i64 (a : Int)] (by rfl) (by rfl) (two_at _ _ _ _ rfl) (by exact flat_one [⟨a, a⟩]) (by unfold maxLen; omega) (by omega) (by simp; omega) ?_))
            intro v' W3 hown3 hgrow _
            have HO3 := Lib.hid hown3
            have HB3 := Lib.hid (pw_below_grown (below_alloc HB2.out (.cells #[.int .i64 (a : Int), .int .i64 (a : Int)] 28)) _ (by simp; omega) hgrow (fun k hk => own_base HO2.out k hk))
            clear hown3 hgrow HO2 HB2 k0 hb2s
            go_wp2
            go_roundg (mz (.string (cut2 44 u)) (.bool (cut3 44 u)))
            case measure => rw [hn, mz_t]; exact hcs3
            case rel =>
              refine ⟨cut2 44 u, acc ++ [⟨a, a⟩], cut3 44 u, rfl, rfl, rfl, ⟨by rw [flat_append, List.length_append]; exact HO3.out⟩, ⟨HB3.out⟩, by rw [List.length_append]; simp; omega, by omega, ⟨?_⟩, ⟨fun h => by rw [List.length_append]; have := HCS2.out h; simp; omega⟩⟩
              rw [HMS.out, HS.out, List.map_append]
              rfl
          | true =>
            have HS := Lib.hid hS
            clear hS
            have he2 := end_f (cut1 58 (cut2 58 p)) 13 (by omega)
            refine wp_loop_rounds 3 ?_
            rw [rounds_succ]
            go_upto_region 17 with (first | (go_at_call 50; refine (cut_calls 58 p _ (by unfold maxLen; omega)).mono ?_; rintro e w' ⟨rfl, n2, rfl⟩; rw [HS.out]) | (go_at_call 51; refine (span_end.calls 13 _ _ _ _ he).mono ?_; rintro e w' ⟨rfl, hd⟩; obtain ⟨n3, rfl⟩ := hd.out))
            have ho2 := own_setCell (p := ⟨q, 0, none⟩) (pw_own_drewN HO1.out (n2 + n3)) hne (.int .i64 (a : Int))
            have hb2 := (pw_below_drewN HB1.out (n2 + n3)).setCell (p := ⟨q, 0, none⟩) hq0 (.int .i64 (a : Int))
            have hh2 := heap_setCell_same (W1.drewN (n2 + n3)) q 0 _ _ (.int .i64 (a : Int)) HH1.out
            obtain ⟨W2, hW2⟩ : ∃ W2, W2 = (W1.drewN (n2 + n3)).setCell ⟨q, 0, none⟩ (.int .i64 (a : Int)) := ⟨_, rfl⟩
            rw [← hW2] at ho2 hb2 hh2
            rw [← hW2]
            have HO2 := Lib.hid ho2
            have HB2 := Lib.hid hb2
            have HH2 := Lib.hid hh2
            clear hW2 ho2 hb2 hh2 c0 f0 hqW hne HO1 HB1 HH1 he
            have c0 : W2.cell? ⟨q, 0, none⟩ = some (.int .i64 (a : Int)) := cell_of_row W2 q 0 _ _ _ HH2.out
            have c1 : W2.cell? ⟨q, 1, none⟩ = some (.int .i64 0) := cell_of_row W2 q 1 _ _ _ HH2.out
            have f1 : W2.frozen? ⟨q, 1, none⟩ = false := frozen_of_row W2 q 1 _ _ HH2.out
            have hne2 := own_ne HO2.out HH2.out (by decide)
            have hqW : q < W2.heap.size := (Array.getElem?_eq_some_iff.1 HH2.out).1
            cases hE2 : endP (cut1 58 (cut2 58 p)).data.toList with
            | none =>
              rw [hE2, HS.out] at HMS
              obtain ⟨r1, hr⟩ : ∃ r1, endA (cut1 58 (cut2 58 p)).data.toList = (r1, false) := ⟨_, Prod.ext rfl (endA_none hE2)⟩
              rw [hr] at he2
              have hPP : P = ([], 40) := by rw [HPM.out, HMS.out]; rfl
              clear HMS HPM hr hE2
              subst hPP
              go_wp2_with fail
              rw [rounds_succ]
              go_wp2_with (first | (go_at_call 50; refine (cut_calls 58 (cut2 58 p) _ (by unfold maxLen; omega)).mono ?_; rintro e w' ⟨rfl, n4, rfl⟩) | (go_at_call 51; refine (span_end.calls 13 _ _ _ _ he2).mono ?_; rintro e w' ⟨rfl, hd⟩; obtain ⟨n5, rfl⟩ := hd.out))
              (try simp only [Exit.noGoto])
              go_ret2
              exact ⟨_, rfl, own_nil _ _ _ _, pw_below_drewN HB2.out _⟩
            | some b =>
              rw [endA_some hE2] at he2
              rw [hE2, HS.out] at HMS
              have hb := endP_le hE2
              clear hE2
              cases hS2 : cut3 58 (cut2 58 p) with
              | true =>
                rw [hS2] at HMS
                have HS2 := Lib.hid hS2
                clear hS2
                have hPP : P = ([], 40) := by rw [HPM.out, HMS.out]; rfl
                clear HMS HPM
                subst hPP
                go_wp2_with fail
                rw [rounds_succ]
                go_wp2_with (first | (go_at_call 50; refine (cut_calls 58 (cut2 58 p) _ (by unfold maxLen; omega)).mono ?_; rintro e w' ⟨rfl, n4, rfl⟩; rw [HS2.out]) | (go_at_call 51; refine (span_end.calls 13 _ _ _ _ he2).mono ?_; rintro e w' ⟨rfl, hd⟩; obtain ⟨n5, rfl⟩ := hd.out))
                rw [rounds_succ]
                go_wp2_with fail
                (try simp only [Exit.noGoto])
                go_ret2
                exact ⟨_, rfl, own_nil _ _ _ _, (pw_below_drewN HB2.out _).setCell (p := ⟨q, 1, none⟩) hq0 _⟩
              | false =>
                rw [hS2] at HMS
                have HS2 := Lib.hid hS2
                clear hS2
                go_wp2_with fail
                rw [rounds_succ]
                go_upto_region 17 with (first | (go_at_call 50; refine (cut_calls 58 (cut2 58 p) _ (by unfold maxLen; omega)).mono ?_; rintro e w' ⟨rfl, n4, rfl⟩; rw [HS2.out]) | (go_at_call 51; refine (span_end.calls 13 _ _ _ _ he2).mono ?_; rintro e w' ⟨rfl, hd⟩; obtain ⟨n5, rfl⟩ := hd.out))
                have ho4 := own_setCell (p := ⟨q, 1, none⟩) (pw_own_drewN HO2.out (n4 + n5)) hne2 (.int .i64 (b : Int))
                have hb4 := (pw_below_drewN HB2.out (n4 + n5)).setCell (p := ⟨q, 1, none⟩) hq0 (.int .i64 (b : Int))
                have hh4 := heap_setCell_same (W2.drewN (n4 + n5)) q 1 _ _ (.int .i64 (b : Int)) HH2.out
                obtain ⟨W4, hW4⟩ : ∃ W4, W4 = (W2.drewN (n4 + n5)).setCell ⟨q, 1, none⟩ (.int .i64 (b : Int)) := ⟨_, rfl⟩
                rw [← hW4] at ho4 hb4 hh4
                rw [← hW4]
                have k0 : W4.cell? ⟨q, 0, none⟩ = some (.int .i64 (a : Int)) := cell_of_row W4 q 0 _ _ _ hh4
                have HO4 := Lib.hid ho4
                have HB4 := Lib.hid hb4
                have hb4s := hb4.size
                clear hW4 ho4 hb4 hh4 c0 c1 f1 hne2 hqW HO2 HB2 HH2 he2
                go_wp2_with (at_builtin; go_loud (refine wpList_append_own _ rfl _ _ 23 rfl w.heap.size 28 i0 _ 2 16 Tryd.underlying23 HI.out HZ.out.1 HZ.out.2.1 HZ.out.2.2 rfl (by decide) (.slice A4 acc.length c4) acc.length (flat acc) (by rfl) (own_alloc HO4.out _) ⟨W4.heap.size, 0, none⟩ 1 1 [.int .i64 (a : Int), .int .i64 (b : Int)] (by rfl) (by rfl) (two_at _ _ _ _ rfl) (by exact flat_one [⟨a, b⟩]) (by unfold maxLen; omega) (by omega) (by simp; omega) ?_))
                intro v' W3 hown3 hgrow _
                have HO3 := Lib.hid hown3
                have HB3 := Lib.hid (pw_below_grown (below_alloc HB4.out (.cells #[.int .i64 (a : Int), .int .i64 (b : Int)] 28)) _ (by simp; omega) hgrow (fun k hk => own_base HO4.out k hk))
                clear hown3 hgrow HO4 HB4 k0 hb4s
                go_wp2
                go_roundg (mz (.string (cut2 44 u)) (.bool (cut3 44 u)))
                case measure => rw [hn, mz_t]; exact hcs3
                case rel =>
                  refine ⟨cut2 44 u, acc ++ [⟨a, b⟩], cut3 44 u, rfl, rfl, rfl, ⟨by rw [flat_append, List.length_append]; exact HO3.out⟩, ⟨HB3.out⟩, by rw [List.length_append]; simp; omega, by omega, ⟨?_⟩, ⟨fun h => by rw [List.length_append]; have := HCS2.out h; simp; omega⟩⟩
                  rw [HMS.out, List.map_append]
                  rfl
def span_Parse.f (a0 : ByteArray) : Option (List S28 × Int) := some (parseA a0)
theorem span_Parse.calls (a0 : ByteArray) (r1 : List S28) (r2 : Int) (w : World) (h : span_Parse.f a0 = some (r1, r2)) :
    Calls Tryd.prog 23 #[.string a0] w fun e w' => ∃ v0_ : Value, e = .returned (.tuple #[v0_, .int .i64 r2]) ∧ Kd.R k28 28 w' w.heap.size (fun _ => True) v0_ r1 ∧ Below w.heap.size w w' := by
  have h := Option.some.inj h
  refine (parse_calls a0 w).mono ?_
  rintro e w' ⟨v, he, ho, hB⟩
  rw [h] at he ho
  exact ⟨v, he, R_of_own ho, hB⟩
end Go.Proofs.YtidcchopmbodkaaDoor.Sp
end
section
namespace Go.Proofs.YtidcchopmbodkaaDoor.Sp
open Go.RowKit Go.Proofs.YtidcchopmbodkaaDoorW.PrintWords Go.Proofs.YtidcchopmbodkaaDoorW.PrintLast Go.Proofs.YtidcchopmbodkaaDoorW.PrintMore
open Canon
end Go.Proofs.YtidcchopmbodkaaDoor.Sp
end
section
namespace Go.Proofs.YtidcchopmbodkaaDoor.Sp
open Go.RowKit Go.Proofs.YtidcchopmbodkaaDoorW.PrintWords Go.Proofs.YtidcchopmbodkaaDoorW.PrintLast Go.Proofs.YtidcchopmbodkaaDoorW.PrintMore
open Par Canon
end Go.Proofs.YtidcchopmbodkaaDoor.Sp
end
section
namespace Go.Proofs.YtidcchopmbodkaaDoor.Sp
open Go.RowKit Go.Proofs.YtidcchopmbodkaaDoorW.PrintWords Go.Proofs.YtidcchopmbodkaaDoorW.PrintLast Go.Proofs.YtidcchopmbodkaaDoorW.PrintMore
open Canon
theorem lies_l0 (n : Nat) (l : List S28) (hl : l.length ≤ n) (hn : n ≤ 8000000000000) (d : Nat) : ∀ (i k : Nat), l.length ≤ i → i + d = n → l.length + d + 2 ≤ k → postbaglaw4_lies.l0 k (layA n l) l (i : Int) = some true := by
  have hL := layA_len n l hl
  induction d with
  | zero =>
    intro i k h0 hi hk
    obtain ⟨k, rfl⟩ : ∃ j, k = j + 1 := ⟨k - 1, by omega⟩
    simp only [postbaglaw4_lies.l0]
    rw [if_neg (by omega), if_pos (by omega), if_pos (by omega), if_pos (by omega), Int.toNat_natCast, show (layA n l).take l.length = l from by unfold layA; exact List.take_left, same_f l l (by omega) k (by omega), Option.bind_some, decide_eq_true rfl]
  | succ d ih =>
    intro i k h0 hi hk
    obtain ⟨k, rfl⟩ : ∃ j, k = j + 1 := ⟨k - 1, by omega⟩
    have hil : i < (layA n l).length := by omega
    have hat := layA_at n l i h0 (by omega)
    rw [List.getElem?_eq_getElem hil] at hat
    have e := Option.some.inj hat
    have hw : wrap64 (-7 - (i : Int)) = -7 - (i : Int) := by unfold wrap64; omega
    simp only [postbaglaw4_lies.l0]
    rw [if_pos (by omega), if_pos (by omega), rd28_at _ i hil, e, hw, w64n i (by omega)]
    rw [show (markB i).f0 = -7 - (i : Int) from rfl, show (markB i).f1 = -9 from rfl, if_neg (by simp)]
    exact ih (i + 1) k (by omega) (by omega) (by omega)
theorem lies_f (n : Nat) (l : List S28) (hl : l.length ≤ n) (hn : n ≤ 8000000000000) (k : Nat) (hk : n + 2 ≤ k) : postbaglaw4_lies.f k (layA n l) l = some true := by
  unfold postbaglaw4_lies.f
  exact lies_l0 n l hl hn (n - l.length) l.length k (Nat.le_refl _) (by omega) (by omega)
end Go.Proofs.YtidcchopmbodkaaDoor.Sp
end
section
namespace Go.Proofs.YtidcchopmbodkaaDoor.Sp
open Go.RowKit Go.Proofs.YtidcchopmbodkaaDoorW.PrintWords Go.Proofs.YtidcchopmbodkaaDoorW.PrintLast Go.Proofs.YtidcchopmbodkaaDoorW.PrintMore
attribute [local go_sem] max2_int min2_int max_two min_two max_three min_three max_four min_four   -- for this text's walks alone
set_option linter.unusedVariables false
set_option linter.unusedSimpArgs false
mutual
def postbaglaw4_long.l0 : Nat → List (S38) → Int → Int → Option (Bool)
 | 0, _, _, _ => none
 | k + 1, x0, x3, x4 => if x4 < (x0.length : Int) then (postbaglaw4_long.j1 k x0 x3 x4 (decide (x4 < 30))) else (postbaglaw4_long.j1 k x0 x3 x4 false)
def postbaglaw4_long.j1 : Nat → List (S38) → Int → Int → Bool → Option (Bool)
 | 0, _, _, _, _ => none
 | k + 1, x0, x3, x4, x13 => if x13 = true then (if 0 ≤ x4 then (if x4 < (x0.length : Int) then (postbaglaw4_long.l1 k x0 (wrap64 ((wrap64 ((wrap64 (x3 + (((rd_T38 x0 x4).f1).length : Int))) + (((rd_T38 x0 x4).f4).length : Int))) + (((rd_T38 x0 x4).f5).length : Int))) x4 0) else (none)) else (none)) else (some (decide ((x0.length : Int) > 30)))
def postbaglaw4_long.l1 : Nat → List (S38) → Int → Int → Int → Option (Bool)
 | 0, _, _, _, _ => none
 | k + 1, x0, x3, x4, x5 => if 0 ≤ x4 then (if x4 < (x0.length : Int) then (if x5 < (((rd_T38 x0 x4).f5).length : Int) then (if x3 ≤ 3000 then (if 0 ≤ x5 then (postbaglaw4_long.l1 k x0 (wrap64 (x3 + ((rd_L2 ((rd_T38 x0 x4).f5) x5).length : Int))) x4 (wrap64 (x5 + 1))) else (none)) else (if x3 > 3000 then (some true) else (postbaglaw4_long.l0 k x0 x3 (wrap64 (x4 + 1))))) else (if x3 > 3000 then (some true) else (postbaglaw4_long.l0 k x0 x3 (wrap64 (x4 + 1))))) else (none)) else (none)
end
def postbaglaw4_long.f (k : Nat) (l0 : List (S38)) : Option (Bool) := postbaglaw4_long.l0 k l0 0 0
set_option maxHeartbeats 8000000 in
set_option maxRecDepth 100000 in
theorem postbaglaw4_long.calls (k : Nat) (A0 : Option Addr) (c0 : Nat) (l0 : List (S38)) (r : Bool) (w : World) (hr0 : Kd.C k38 w A0 l0.length l0) (hc0 : l0.length ≤ c0) (h : postbaglaw4_long.f k l0 = some r) :
  Calls Tryd.prog 21 #[.slice A0 l0.length c0] w fun e w' => e = .returned (.bool r) ∧ Drawn0 w w' := by
 have HR0 := Aside0.mk hr0
 have HC0 := Aside0.mk hc0
 clear hr0 hc0
 have H : (postbaglaw4_long.l0 k l0 0 0) = some r := h
 clear h
 have H' := Aside0.mk H
 clear H
 go_enter Tryd.func21, Tryd.ntmps21
 go_wp2
 repeat (go_quiet (fail); try go_wp2)
 go_loopg [3, 4] k (fun kq v3 v4 w' => ∃ (x3_1 : Int) (x4_1 : Int), v3 = .int .i64 x3_1 ∧ v4 = .int .i64 x4_1 ∧ Aside0 (postbaglaw4_long.l0 kq l0 x3_1 x4_1 = some r) ∧ Aside0 (kq ≤ k) ∧ Drawn0 w w')
 case atStart => exact ⟨(0), (0), (by first | rfl | (simp; done) | (simp [*]; done)), (by first | rfl | (simp; done) | (simp [*]; done)), H', ⟨Nat.le_refl _⟩, by repeat (first | exact Drawn0.refl _ | apply Drawn0.step)⟩
 case round =>
  clear H'
  obtain ⟨x3_1, x4_1, rfl, rfl, HA, HK1, ⟨m1, rfl⟩⟩ := hrel
  cases gk with
  | zero => exact absurd HA.out (by simp [postbaglaw4_long.l0])
  | succ k1 =>
   have H := HA.out
   clear HA
   simp only [postbaglaw4_long.l0] at H
   have HC2 := Aside0.mk H
   clear H
   go_upto_region 3 with (fail)
   repeat (go_quiet (fail); go_upto_region 3 with (fail))
   go_cut [13] (fun v13 wc => ∃ (kq : Nat) (x13_1 : Bool), v13 = .bool x13_1 ∧ Aside0 (postbaglaw4_long.j1 kq l0 x3_1 x4_1 x13_1 = some r) ∧ Aside0 (kq ≤ k1) ∧ Drawn0 w wc)
   case first =>
    have H := HC2.out
    clear HC2
    by_cases c3 : x4_1 < (l0.length : Int)
    ·rw [if_pos c3] at H
     have c3b0 : decide (x4_1 < (l0.length : Int)) = true := decide_eq_true c3
     clear c3
     (first | rw [c3b0] | (simp only [i64_w, i32_w]; rw [c3b0]) | skip)
     have H' := Aside0.mk H
     clear H
     go_wp2
     repeat (go_quiet (fail); try go_wp2)
     go_meet
     case rel => exact ⟨_, (decide (x4_1 < 30)), (by first | rfl | (simp; done) | (simp [*]; done)), H', ⟨by have := HK1.out; first | omega | exact Nat.le_refl _⟩, by repeat (first | exact Drawn0.refl _ | apply Drawn0.step)⟩
    ·rw [if_neg c3] at H
     have c3b0 : decide (x4_1 < (l0.length : Int)) = false := decide_eq_false c3
     clear c3
     (first | rw [c3b0] | (simp only [i64_w, i32_w]; rw [c3b0]) | skip)
     have H' := Aside0.mk H
     clear H
     go_wp2
     repeat (go_quiet (fail); try go_wp2)
     go_meet
     case rel => exact ⟨_, (false), (by first | rfl | (simp; done) | (simp [*]; done)), H', ⟨by have := HK1.out; first | omega | exact Nat.le_refl _⟩, by repeat (first | exact Drawn0.refl _ | apply Drawn0.step)⟩
   case rest =>
    clear HC2
    try clear c2
    try clear p2
    try clear c3
    try clear c3b0
    obtain ⟨kq, x13_1, rfl, HA, HJ1, ⟨mc1, rfl⟩⟩ := hcut
    cases kq with
    | zero => exact absurd HA.out (by simp [postbaglaw4_long.j1])
    | succ kj1 =>
     have H := HA.out
     clear HA
     simp only [postbaglaw4_long.j1] at H
     by_cases c4 : x13_1 = true
     ·subst c4
      have H1 : (if 0 ≤ x4_1 then (if x4_1 < (l0.length : Int) then (postbaglaw4_long.l1 kj1 l0 (wrap64 ((wrap64 ((wrap64 (x3_1 + (((rd_T38 l0 x4_1).f1).length : Int))) + (((rd_T38 l0 x4_1).f4).length : Int))) + (((rd_T38 l0 x4_1).f5).length : Int))) x4_1 0) else (none)) else (none)) = some r := by rw [if_pos rfl] at H; exact H
      clear H
      have H := H1
      clear H1
      by_cases c5 : 0 ≤ x4_1
      ·rw [if_pos c5] at H
       have c5b0 : decide (0 ≤ x4_1) = true := decide_eq_true c5
       clear c5
       by_cases c6 : x4_1 < (l0.length : Int)
       ·rw [if_pos c6] at H
        have c6b0 : decide (x4_1 < (l0.length : Int)) = true := decide_eq_true c6
        clear c6
        have H' := Aside0.mk H
        clear H
        have p233 : 0 ≤ (x4_1 : Int) := of_decide_eq_true (by first | (with_reducible assumption) | assumption)
        have q233 : x4_1 < (l0.length : Int) := of_decide_eq_true (by first | (with_reducible assumption) | assumption)
        obtain ⟨ad233, A233_1, c233_1, A233_4, c233_4, A233_5, c233_5, e233, hx233_0, hx233_1, hx233_2, hx233_3, hx233_4, hx233_5, hl233_1, hi233_1, hl233_4, hi233_4, hl233_5, hi233_5⟩ := at_T38 HR0.out x4_1 p233 q233
        cases e233
        have HR233_1 := Aside0.mk hi233_1
        have HC233_1 := Aside0.mk hl233_1
        clear hi233_1 hl233_1
        have HR233_4 := Aside0.mk hi233_4
        have HC233_4 := Aside0.mk hl233_4
        clear hi233_4 hl233_4
        have HR233_5 := Aside0.mk hi233_5
        have HC233_5 := Aside0.mk hl233_5
        clear hi233_5 hl233_5
        replace p233 := eq_true p233
        replace q233 := eq_true q233
        have p234 : 0 ≤ (x4_1 : Int) := of_decide_eq_true (by first | (with_reducible assumption) | assumption)
        have q234 : x4_1 < (l0.length : Int) := of_decide_eq_true (by first | (with_reducible assumption) | assumption)
        obtain ⟨ad234, A234_1, c234_1, A234_4, c234_4, A234_5, c234_5, e234, hx234_0, hx234_1, hx234_2, hx234_3, hx234_4, hx234_5, hl234_1, hi234_1, hl234_4, hi234_4, hl234_5, hi234_5⟩ := at_T38 HR0.out x4_1 p234 q234
        obtain rfl : ad233 = ad234 := (by injection e234)
        have HR234_1 := Aside0.mk hi234_1
        have HC234_1 := Aside0.mk hl234_1
        clear hi234_1 hl234_1
        have HR234_4 := Aside0.mk hi234_4
        have HC234_4 := Aside0.mk hl234_4
        clear hi234_4 hl234_4
        have HR234_5 := Aside0.mk hi234_5
        have HC234_5 := Aside0.mk hl234_5
        clear hi234_5 hl234_5
        replace p234 := eq_true p234
        replace q234 := eq_true q234
        have ea_ := Option.some.inj (hx233_1.symm.trans hx234_1)
        injection ea_ with ea_ en_ ec_
        subst ea_
        subst ec_
        clear en_
        have ea_ := Option.some.inj (hx233_4.symm.trans hx234_4)
        injection ea_ with ea_ en_ ec_
        subst ea_
        subst ec_
        clear en_
        have ea_ := Option.some.inj (hx233_5.symm.trans hx234_5)
        injection ea_ with ea_ en_ ec_
        subst ea_
        subst ec_
        clear en_
        have p235 : 0 ≤ (x4_1 : Int) := of_decide_eq_true (by first | (with_reducible assumption) | assumption)
        have q235 : x4_1 < (l0.length : Int) := of_decide_eq_true (by first | (with_reducible assumption) | assumption)
        obtain ⟨ad235, A235_1, c235_1, A235_4, c235_4, A235_5, c235_5, e235, hx235_0, hx235_1, hx235_2, hx235_3, hx235_4, hx235_5, hl235_1, hi235_1, hl235_4, hi235_4, hl235_5, hi235_5⟩ := at_T38 HR0.out x4_1 p235 q235
        obtain rfl : ad233 = ad235 := (by injection e235)
        have HR235_1 := Aside0.mk hi235_1
        have HC235_1 := Aside0.mk hl235_1
        clear hi235_1 hl235_1
        have HR235_4 := Aside0.mk hi235_4
        have HC235_4 := Aside0.mk hl235_4
        clear hi235_4 hl235_4
        have HR235_5 := Aside0.mk hi235_5
        have HC235_5 := Aside0.mk hl235_5
        clear hi235_5 hl235_5
        replace p235 := eq_true p235
        replace q235 := eq_true q235
        have ea_ := Option.some.inj (hx233_1.symm.trans hx235_1)
        injection ea_ with ea_ en_ ec_
        subst ea_
        subst ec_
        clear en_
        have ea_ := Option.some.inj (hx233_4.symm.trans hx235_4)
        injection ea_ with ea_ en_ ec_
        subst ea_
        subst ec_
        clear en_
        have ea_ := Option.some.inj (hx233_5.symm.trans hx235_5)
        injection ea_ with ea_ en_ ec_
        subst ea_
        subst ec_
        clear en_
        go_wp2
        repeat (go_quiet (fail); try go_wp2)
        go_loopg [3, 5] kj1 (fun kq v3 v5 w' => ∃ (x3_3 : Int) (x5_3 : Int), v3 = .int .i64 x3_3 ∧ v5 = .int .i64 x5_3 ∧ Aside0 (postbaglaw4_long.l1 kq l0 x3_3 x4_1 x5_3 = some r) ∧ Aside0 (kq ≤ kj1) ∧ Drawn0 w w')
        case atStart => exact ⟨(wrap64 ((wrap64 ((wrap64 (x3_1 + (((rd_T38 l0 x4_1).f1).length : Int))) + (((rd_T38 l0 x4_1).f4).length : Int))) + (((rd_T38 l0 x4_1).f5).length : Int))), (0), (by first | rfl | (simp; done) | (simp [*]; done)), (by first | rfl | (simp; done) | (simp [*]; done)), H', ⟨Nat.le_refl _⟩, by repeat (first | exact Drawn0.refl _ | apply Drawn0.step)⟩
        case round =>
         clear H'
         try clear c1
         try clear c2
         try clear p2
         try clear q2
         try clear hx2
         try clear c3
         try clear c3b0
         try clear c4
         try clear c5
         try clear c5b0
         try clear c6
         try clear c6b0
         try clear p6
         try clear hx233_0
         try clear hx233_1
         try clear hx233_2
         try clear hx233_3
         try clear hx233_4
         try clear hx233_5
         try clear hx234_0
         try clear hx234_1
         try clear hx234_2
         try clear hx234_3
         try clear hx234_4
         try clear hx234_5
         try clear hx235_0
         try clear hx235_1
         try clear hx235_2
         try clear hx235_3
         try clear hx235_4
         try clear hx235_5
         try clear p2
         try clear p233
         try clear p234
         try clear p235
         try clear q233
         try clear q234
         try clear q235
         obtain ⟨x3_3, x5_3, rfl, rfl, HA, HK3, ⟨m3, rfl⟩⟩ := hrel
         cases gk with
         | zero => exact absurd HA.out (by simp [postbaglaw4_long.l1])
         | succ k3 =>
          have H := HA.out
          clear HA
          simp only [postbaglaw4_long.l1] at H
          by_cases c7 : 0 ≤ x4_1
          ·rw [if_pos c7] at H
           have c7b0 : decide (0 ≤ x4_1) = true := decide_eq_true c7
           clear c7
           by_cases c8 : x4_1 < (l0.length : Int)
           ·rw [if_pos c8] at H
            have c8b0 : decide (x4_1 < (l0.length : Int)) = true := decide_eq_true c8
            clear c8
            by_cases c9 : x5_3 < (((rd_T38 l0 x4_1).f5).length : Int)
            ·rw [if_pos c9] at H
             have c9b0 : decide (x5_3 < (((rd_T38 l0 x4_1).f5).length : Int)) = true := decide_eq_true c9
             clear c9
             by_cases c10 : x3_3 ≤ 3000
             ·rw [if_pos c10] at H
              have c10b0 : decide (x3_3 ≤ 3000) = true := decide_eq_true c10
              clear c10
              by_cases c11 : 0 ≤ x5_3
              ·rw [if_pos c11] at H
               have c11b0 : decide (0 ≤ x5_3) = true := decide_eq_true c11
               clear c11
               have H' := Aside0.mk H
               clear H
               have p236 : 0 ≤ (x4_1 : Int) := of_decide_eq_true (by first | (with_reducible assumption) | assumption)
               have q236 : x4_1 < (l0.length : Int) := of_decide_eq_true (by first | (with_reducible assumption) | assumption)
               obtain ⟨ad236, A236_1, c236_1, A236_4, c236_4, A236_5, c236_5, e236, hx236_0, hx236_1, hx236_2, hx236_3, hx236_4, hx236_5, hl236_1, hi236_1, hl236_4, hi236_4, hl236_5, hi236_5⟩ := at_T38 HR0.out x4_1 p236 q236
               obtain rfl : ad233 = ad236 := (by injection e236)
               have HR236_1 := Aside0.mk hi236_1
               have HC236_1 := Aside0.mk hl236_1
               clear hi236_1 hl236_1
               have HR236_4 := Aside0.mk hi236_4
               have HC236_4 := Aside0.mk hl236_4
               clear hi236_4 hl236_4
               have HR236_5 := Aside0.mk hi236_5
               have HC236_5 := Aside0.mk hl236_5
               clear hi236_5 hl236_5
               replace p236 := eq_true p236
               replace q236 := eq_true q236
               have p237 : 0 ≤ (x4_1 : Int) := of_decide_eq_true (by first | (with_reducible assumption) | assumption)
               have q237 : x4_1 < (l0.length : Int) := of_decide_eq_true (by first | (with_reducible assumption) | assumption)
               obtain ⟨ad237, A237_1, c237_1, A237_4, c237_4, A237_5, c237_5, e237, hx237_0, hx237_1, hx237_2, hx237_3, hx237_4, hx237_5, hl237_1, hi237_1, hl237_4, hi237_4, hl237_5, hi237_5⟩ := at_T38 HR0.out x4_1 p237 q237
               obtain rfl : ad233 = ad237 := (by injection e237)
               have HR237_1 := Aside0.mk hi237_1
               have HC237_1 := Aside0.mk hl237_1
               clear hi237_1 hl237_1
               have HR237_4 := Aside0.mk hi237_4
               have HC237_4 := Aside0.mk hl237_4
               clear hi237_4 hl237_4
               have HR237_5 := Aside0.mk hi237_5
               have HC237_5 := Aside0.mk hl237_5
               clear hi237_5 hl237_5
               replace p237 := eq_true p237
               replace q237 := eq_true q237
               have ea_ := Option.some.inj (hx236_1.symm.trans hx237_1)
               injection ea_ with ea_ en_ ec_
               subst ea_
               subst ec_
               clear en_
               have ea_ := Option.some.inj (hx236_4.symm.trans hx237_4)
               injection ea_ with ea_ en_ ec_
               subst ea_
               subst ec_
               clear en_
               have ea_ := Option.some.inj (hx236_5.symm.trans hx237_5)
               injection ea_ with ea_ en_ ec_
               subst ea_
               subst ec_
               clear en_
               have p238 : 0 ≤ (x5_3 : Int) := of_decide_eq_true (by first | (with_reducible assumption) | assumption)
               have q238 : x5_3 < (((rd_T38 l0 x4_1).f5).length : Int) := of_decide_eq_true (by first | (with_reducible assumption) | assumption)
               obtain ⟨ad238, A238_0, c238_0, e238, hx238_0, hl238_0, hi238_0⟩ := at_L2 HR237_5.out x5_3 p238 q238
               cases e238
               have HR238_0 := Aside0.mk hi238_0
               have HC238_0 := Aside0.mk hl238_0
               clear hi238_0 hl238_0
               replace p238 := eq_true p238
               replace q238 := eq_true q238
               go_wp2
               repeat (go_quiet (fail); try go_wp2)
               go_roundg k3
               case measure => have := HK1.out; have := HJ1.out; have := HK3.out; omega
               case rel => exact ⟨(wrap64 (x3_3 + ((rd_L2 ((rd_T38 l0 x4_1).f5) x5_3).length : Int))), (wrap64 (x5_3 + 1)), (by first | rfl | (simp; done) | (simp [*]; done)), (by first | rfl | (simp; done) | (simp [*]; done)), H', ⟨by have := HK1.out; have := HJ1.out; have := HK3.out; omega⟩, by repeat (first | exact Drawn0.refl _ | apply Drawn0.step)⟩
              ·rw [if_neg c11] at H
               exact absurd H (by simp)
             ·rw [if_neg c10] at H
              have c10b0 : decide (x3_3 ≤ 3000) = false := decide_eq_false c10
              clear c10
              by_cases c12 : x3_3 > 3000
              ·rw [if_pos c12] at H
               have c12b0 : decide (3000 < x3_3) = true := decide_eq_true c12
               clear c12
               obtain rfl := Option.some.inj H
               have p236 : 0 ≤ (x4_1 : Int) := of_decide_eq_true (by first | (with_reducible assumption) | assumption)
               have q236 : x4_1 < (l0.length : Int) := of_decide_eq_true (by first | (with_reducible assumption) | assumption)
               obtain ⟨ad236, A236_1, c236_1, A236_4, c236_4, A236_5, c236_5, e236, hx236_0, hx236_1, hx236_2, hx236_3, hx236_4, hx236_5, hl236_1, hi236_1, hl236_4, hi236_4, hl236_5, hi236_5⟩ := at_T38 HR0.out x4_1 p236 q236
               obtain rfl : ad233 = ad236 := (by injection e236)
               have HR236_1 := Aside0.mk hi236_1
               have HC236_1 := Aside0.mk hl236_1
               clear hi236_1 hl236_1
               have HR236_4 := Aside0.mk hi236_4
               have HC236_4 := Aside0.mk hl236_4
               clear hi236_4 hl236_4
               have HR236_5 := Aside0.mk hi236_5
               have HC236_5 := Aside0.mk hl236_5
               clear hi236_5 hl236_5
               replace p236 := eq_true p236
               replace q236 := eq_true q236
               go_wp2
               repeat (go_quiet (fail); try go_wp2)
               go_ret
               exact ⟨by first | rfl | (simp; done) | (simp [*]; done), by repeat (first | exact Drawn0.refl _ | apply Drawn0.step)⟩
              ·rw [if_neg c12] at H
               have c12b0 : decide (3000 < x3_3) = false := decide_eq_false c12
               clear c12
               have H' := Aside0.mk H
               clear H
               have p236 : 0 ≤ (x4_1 : Int) := of_decide_eq_true (by first | (with_reducible assumption) | assumption)
               have q236 : x4_1 < (l0.length : Int) := of_decide_eq_true (by first | (with_reducible assumption) | assumption)
               obtain ⟨ad236, A236_1, c236_1, A236_4, c236_4, A236_5, c236_5, e236, hx236_0, hx236_1, hx236_2, hx236_3, hx236_4, hx236_5, hl236_1, hi236_1, hl236_4, hi236_4, hl236_5, hi236_5⟩ := at_T38 HR0.out x4_1 p236 q236
               obtain rfl : ad233 = ad236 := (by injection e236)
               have HR236_1 := Aside0.mk hi236_1
               have HC236_1 := Aside0.mk hl236_1
               clear hi236_1 hl236_1
               have HR236_4 := Aside0.mk hi236_4
               have HC236_4 := Aside0.mk hl236_4
               clear hi236_4 hl236_4
               have HR236_5 := Aside0.mk hi236_5
               have HC236_5 := Aside0.mk hl236_5
               clear hi236_5 hl236_5
               replace p236 := eq_true p236
               replace q236 := eq_true q236
               go_wp2
               repeat (go_quiet (fail); try go_wp2)
               go_roundg k3
               case measure => have := HK1.out; have := HJ1.out; have := HK3.out; omega
               case rel => exact ⟨(x3_3), (wrap64 (x4_1 + 1)), (by first | rfl | (simp; done) | (simp [*]; done)), (by first | rfl | (simp; done) | (simp [*]; done)), H', ⟨by have := HK1.out; have := HJ1.out; have := HK3.out; omega⟩, by repeat (first | exact Drawn0.refl _ | apply Drawn0.step)⟩
            ·rw [if_neg c9] at H
             have c9b0 : decide (x5_3 < (((rd_T38 l0 x4_1).f5).length : Int)) = false := decide_eq_false c9
             clear c9
             by_cases c13 : x3_3 > 3000
             ·rw [if_pos c13] at H
              have c13b0 : decide (3000 < x3_3) = true := decide_eq_true c13
              clear c13
              obtain rfl := Option.some.inj H
              have p236 : 0 ≤ (x4_1 : Int) := of_decide_eq_true (by first | (with_reducible assumption) | assumption)
              have q236 : x4_1 < (l0.length : Int) := of_decide_eq_true (by first | (with_reducible assumption) | assumption)
              obtain ⟨ad236, A236_1, c236_1, A236_4, c236_4, A236_5, c236_5, e236, hx236_0, hx236_1, hx236_2, hx236_3, hx236_4, hx236_5, hl236_1, hi236_1, hl236_4, hi236_4, hl236_5, hi236_5⟩ := at_T38 HR0.out x4_1 p236 q236
              obtain rfl : ad233 = ad236 := (by injection e236)
              have HR236_1 := Aside0.mk hi236_1
              have HC236_1 := Aside0.mk hl236_1
              clear hi236_1 hl236_1
              have HR236_4 := Aside0.mk hi236_4
              have HC236_4 := Aside0.mk hl236_4
              clear hi236_4 hl236_4
              have HR236_5 := Aside0.mk hi236_5
              have HC236_5 := Aside0.mk hl236_5
              clear hi236_5 hl236_5
              replace p236 := eq_true p236
              replace q236 := eq_true q236
              go_wp2
              repeat (go_quiet (fail); try go_wp2)
              go_ret
              exact ⟨by first | rfl | (simp; done) | (simp [*]; done), by repeat (first | exact Drawn0.refl _ | apply Drawn0.step)⟩
             ·rw [if_neg c13] at H
              have c13b0 : decide (3000 < x3_3) = false := decide_eq_false c13
              clear c13
              have H' := Aside0.mk H
              clear H
              have p236 : 0 ≤ (x4_1 : Int) := of_decide_eq_true (by first | (with_reducible assumption) | assumption)
              have q236 : x4_1 < (l0.length : Int) := of_decide_eq_true (by first | (with_reducible assumption) | assumption)
              obtain ⟨ad236, A236_1, c236_1, A236_4, c236_4, A236_5, c236_5, e236, hx236_0, hx236_1, hx236_2, hx236_3, hx236_4, hx236_5, hl236_1, hi236_1, hl236_4, hi236_4, hl236_5, hi236_5⟩ := at_T38 HR0.out x4_1 p236 q236
              obtain rfl : ad233 = ad236 := (by injection e236)
              have HR236_1 := Aside0.mk hi236_1
              have HC236_1 := Aside0.mk hl236_1
              clear hi236_1 hl236_1
              have HR236_4 := Aside0.mk hi236_4
              have HC236_4 := Aside0.mk hl236_4
              clear hi236_4 hl236_4
              have HR236_5 := Aside0.mk hi236_5
              have HC236_5 := Aside0.mk hl236_5
              clear hi236_5 hl236_5
              replace p236 := eq_true p236
              replace q236 := eq_true q236
              go_wp2
              repeat (go_quiet (fail); try go_wp2)
              go_roundg k3
              case measure => have := HK1.out; have := HJ1.out; have := HK3.out; omega
              case rel => exact ⟨(x3_3), (wrap64 (x4_1 + 1)), (by first | rfl | (simp; done) | (simp [*]; done)), (by first | rfl | (simp; done) | (simp [*]; done)), H', ⟨by have := HK1.out; have := HJ1.out; have := HK3.out; omega⟩, by repeat (first | exact Drawn0.refl _ | apply Drawn0.step)⟩
           ·rw [if_neg c8] at H
            exact absurd H (by simp)
          ·rw [if_neg c7] at H
           exact absurd H (by simp)
       ·rw [if_neg c6] at H
        exact absurd H (by simp)
      ·rw [if_neg c5] at H
       exact absurd H (by simp)
     ·replace c4 := Bool.eq_false_iff.mpr c4
      subst c4
      have H1 : (some (decide ((l0.length : Int) > 30))) = some r := by rw [if_neg (show ¬ (false = true) by decide)] at H; exact H
      clear H
      have H := H1
      clear H1
      obtain rfl := Option.some.inj H
      go_wp2
      repeat (go_quiet (fail); try go_wp2)
      go_ret
      exact ⟨by first | rfl | (simp; done) | (simp [*]; done), by repeat (first | exact Drawn0.refl _ | apply Drawn0.step)⟩
end Go.Proofs.YtidcchopmbodkaaDoor.Sp
end
section
namespace Go.Proofs.YtidcchopmbodkaaDoor.Sp
open Go.RowKit Go.Proofs.YtidcchopmbodkaaDoorW.PrintWords Go.Proofs.YtidcchopmbodkaaDoorW.PrintLast Go.Proofs.YtidcchopmbodkaaDoorW.PrintMore
attribute [local go_sem] max2_int min2_int max_two min_two max_three min_three max_four min_four   -- for this text's walks alone
set_option linter.unusedVariables false
set_option linter.unusedSimpArgs false
def postbaglaw4_turn.f (a0 : Int) (a1 : Int) : Option (Int) := if a0 < a1 then (some a0) else (some (wrap64 ((wrap64 ((wrap64 (2 * a1)) - 1)) - a0)))
set_option maxHeartbeats 8000000 in
set_option maxRecDepth 100000 in
theorem postbaglaw4_turn.calls (a0 : Int) (a1 : Int) (r : Int) (w : World) (h : postbaglaw4_turn.f a0 a1 = some r) :
  Calls Tryd.prog 22 #[.int .i64 a0, .int .i64 a1] w fun e w' => e = .returned (.int .i64 r) ∧ Drawn0 w w' := by
 have H : (if a0 < a1 then (some a0) else (some (wrap64 ((wrap64 ((wrap64 (2 * a1)) - 1)) - a0)))) = some r := h
 clear h
 by_cases c3 : a0 < a1
 ·rw [if_pos c3] at H
  have c3b0 : decide (a0 < a1) = true := decide_eq_true c3
  clear c3
  obtain rfl := Option.some.inj H
  go_enter Tryd.func22, Tryd.ntmps22
  go_wp2
  go_ret
  exact ⟨by first | rfl | (simp; done) | (simp [*]; done), by repeat (first | exact Drawn0.refl _ | apply Drawn0.step)⟩
 ·rw [if_neg c3] at H
  have c3b0 : decide (a0 < a1) = false := decide_eq_false c3
  clear c3
  obtain rfl := Option.some.inj H
  go_enter Tryd.func22, Tryd.ntmps22
  go_wp2
  go_ret
  exact ⟨by first | rfl | (simp; done) | (simp [*]; done), by repeat (first | exact Drawn0.refl _ | apply Drawn0.step)⟩
end Go.Proofs.YtidcchopmbodkaaDoor.Sp
end
section
namespace Go.Proofs.YtidcchopmbodkaaDoor.Sp
open Go.RowKit Go.Proofs.YtidcchopmbodkaaDoorW.PrintWords Go.Proofs.YtidcchopmbodkaaDoorW.PrintLast Go.Proofs.YtidcchopmbodkaaDoorW.PrintMore
open Canon
def FitsL (l : List S38) : Prop := ∀ x ∈ l, x.f1.length ≤ 8796093022208 ∧ x.f4.length ≤ 17592186044416 ∧ x.f5.length ≤ 8796093022208 ∧ ∀ y ∈ x.f5, y.length ≤ 8796093022208
def Short (x : S38) : Prop := x.f1.length ≤ 3000 ∧ x.f4.length ≤ 3000 ∧ x.f5.length ≤ 3000 ∧ x.f5.flatten.length ≤ 3000
theorem rd38L_at (l : List S38) (i : Nat) (h : i < l.length) : rd_T38 l (i : Int) = l[i] := by
  unfold rd_T38
  rw [List.getD_eq_getElem?_getD, show ((i : Int)).toNat = i from by omega, List.getElem?_eq_getElem h]
  rfl
theorem rdL2L_at (l : List (List S28)) (i : Nat) (h : i < l.length) : rd_L2 l (i : Int) = l[i] := by
  unfold rd_L2
  rw [List.getD_eq_getElem?_getD, show ((i : Int)).toNat = i from by omega, List.getElem?_eq_getElem h]
  rfl
theorem longS_l1 (l : List S38) (hf : FitsL l) (i : Nat) (hi : i < l.length) (hl : l.length ≤ 8796093022208) (P : Nat → Prop) (G : Prop)
    (next : ∀ (k : Nat) (n : Int), 0 ≤ n → n ≤ 3000 → P k → ∃ b, postbaglaw4_long.l0 k l n ((i + 1 : Nat) : Int) = some b ∧ (b = false → G)) (d : Nat) :
    ∀ (j k : Nat) (n : Int), j + d = l[i].f5.length → 0 ≤ n → n ≤ 70368744200000 → (∀ k', k ≤ k' → P k') → ∃ b, postbaglaw4_long.l1 (k + (d + 1)) l n (i : Int) (j : Int) = some b ∧ (b = false → G ∧ n + (((l[i].f5.drop j).flatten.length : Nat) : Int) ≤ 3000) := by
  have hfi := hf l[i] (List.getElem_mem hi)
  have stop : ∀ (k : Nat) (n : Int), 0 ≤ n → P k → ∃ b, (if n > 3000 then some true else postbaglaw4_long.l0 k l n (wrap64 ((i : Int) + 1))) = some b ∧ (b = false → G ∧ n ≤ 3000) := by
    intro k n h0 hP
    by_cases h : n > 3000
    · rw [if_pos h]; exact ⟨true, rfl, fun h => by cases h⟩
    · rw [if_neg h, w64n i (by omega)]
      obtain ⟨b, hb, hG⟩ := next k n h0 (by omega) hP
      exact ⟨b, hb, fun h => ⟨hG h, by omega⟩⟩
  induction d with
  | zero =>
    intro j k n hj h0 h1 hP
    rw [Nat.zero_add]
    simp only [postbaglaw4_long.l1]
    rw [if_pos (by omega), if_pos (by omega), rd38L_at l i hi, if_neg (by omega), List.drop_of_length_le (by omega)]
    obtain ⟨b, hb, hG⟩ := stop k n h0 (hP k (Nat.le_refl _))
    exact ⟨b, hb, fun h => ⟨(hG h).1, by have := (hG h).2; simpa using this⟩⟩
  | succ d ih =>
    intro j k n hj h0 h1 hP
    have ih' := ih (j + 1) k
    have stop' := stop (k + (d + 1)) n h0 (hP _ (by omega))
    rw [show k + (d + 1 + 1) = (k + (d + 1)) + 1 from by omega]
    generalize k + (d + 1) = K at ih' stop' ⊢
    have hjl : j < l[i].f5.length := by omega
    simp only [postbaglaw4_long.l1]
    rw [if_pos (by omega), if_pos (by omega), rd38L_at l i hi, if_pos (by omega)]
    by_cases h3 : n ≤ 3000
    · rw [if_pos h3, if_pos (by omega), rdL2L_at _ j hjl, w64n j (by omega)]
      have hy := hfi.2.2.2 _ (List.getElem_mem hjl)
      have hw : wrap64 (n + (l[i].f5[j].length : Int)) = n + (l[i].f5[j].length : Int) := by unfold wrap64; omega
      rw [hw]
      obtain ⟨b, hb, hG⟩ := ih' (n + (l[i].f5[j].length : Int)) (by omega) (by omega) (by omega) hP
      refine ⟨b, hb, fun h => ⟨(hG h).1, ?_⟩⟩
      have := (hG h).2
      rw [List.drop_eq_getElem_cons hjl, List.flatten_cons, List.length_append]
      omega
    · rw [if_neg h3]
      obtain ⟨b, hb, hG⟩ := stop'
      exact ⟨b, hb, fun h => by have := (hG h).2; omega⟩
theorem longS_end (l : List S38) (hl : l.length ≤ 8796093022208) (n i : Int) (k : Nat) : ∃ b, postbaglaw4_long.j1 (k + 1) l n i false = some b ∧ (b = false → l.length ≤ 30) := by
  simp only [postbaglaw4_long.j1]
  rw [if_neg (by simp)]
  refine ⟨_, rfl, fun h => ?_⟩
  have := of_decide_eq_false h
  omega
theorem longS_l0 (l : List S38) (hf : FitsL l) (hl : l.length ≤ 8796093022208) (d : Nat) : ∀ i : Nat, i + d = l.length → ∃ K, ∀ k, K ≤ k → ∀ n : Int, 0 ≤ n → n ≤ 3000 → ∃ b, postbaglaw4_long.l0 k l n (i : Int) = some b ∧ (b = false → l.length ≤ 30 ∧ ∀ x ∈ l.drop i, Short x) := by
  induction d with
  | zero =>
    intro i hi
    refine ⟨5, fun k hk n h0 h1 => ?_⟩
    obtain ⟨k, rfl⟩ : ∃ j, k = j + 2 := ⟨k - 2, by omega⟩
    simp only [postbaglaw4_long.l0]
    rw [if_neg (by omega), List.drop_of_length_le (by omega)]
    obtain ⟨b, hb, hG⟩ := longS_end l hl n i k
    exact ⟨b, hb, fun h => ⟨hG h, fun x hx => by cases hx⟩⟩
  | succ d ih =>
    intro i hi
    obtain ⟨K, hK⟩ := ih (i + 1) (by omega)
    have hil : i < l.length := by omega
    refine ⟨K + l[i].f5.length + 10, fun k hk n h0 h1 => ?_⟩
    obtain ⟨k, rfl⟩ : ∃ j, k = j + 2 := ⟨k - 2, by omega⟩
    simp only [postbaglaw4_long.l0]
    rw [if_pos (by omega)]
    by_cases h30 : (i : Int) < 30
    · rw [decide_eq_true h30]
      simp only [postbaglaw4_long.j1]
      have hx := hf l[i] (List.getElem_mem hil)
      rw [if_pos trivial, if_pos (by omega), if_pos (by omega), rd38L_at l i hil]
      have e1 : wrap64 (n + (l[i].f1.length : Int)) = n + (l[i].f1.length : Int) := by unfold wrap64; omega
      have e2 : wrap64 (n + (l[i].f1.length : Int) + (l[i].f4.length : Int)) = n + (l[i].f1.length : Int) + (l[i].f4.length : Int) := by unfold wrap64; omega
      have e3 : wrap64 (n + (l[i].f1.length : Int) + (l[i].f4.length : Int) + (l[i].f5.length : Int)) = n + (l[i].f1.length : Int) + (l[i].f4.length : Int) + (l[i].f5.length : Int) := by unfold wrap64; omega
      rw [e1, e2, e3]
      have := longS_l1 l hf i hil hl (fun k => K ≤ k) _ (fun k n a b c => hK k c n a b) l[i].f5.length 0 (k - (l[i].f5.length + 1)) (n + (l[i].f1.length : Int) + (l[i].f4.length : Int) + (l[i].f5.length : Int)) (by omega) (by omega) (by omega) (fun k' h => by omega)
      rw [show k - (l[i].f5.length + 1) + (l[i].f5.length + 1) = k from by omega, List.drop_zero] at this
      obtain ⟨b, hb, hG⟩ := this
      refine ⟨b, hb, fun h => ⟨(hG h).1.1, fun x hx => ?_⟩⟩
      rw [List.drop_eq_getElem_cons hil] at hx
      have h2 := (hG h).2
      rcases List.mem_cons.1 hx with rfl | hx
      · unfold Short; omega
      · exact (hG h).1.2 x hx
    · rw [decide_eq_false h30]
      obtain ⟨b, hb, hG⟩ := longS_end l hl n i k
      exact ⟨b, hb, fun h => by have := hG h; omega⟩
theorem longS_f (l : List S38) (hf : FitsL l) (hl : l.length ≤ 8796093022208) : ∃ k b, postbaglaw4_long.f k l = some b ∧ (b = false → l.length ≤ 30 ∧ ∀ x ∈ l, Short x) := by
  obtain ⟨K, hK⟩ := longS_l0 l hf hl l.length 0 (by omega)
  obtain ⟨b, hb, hG⟩ := hK K (Nat.le_refl _) 0 (Int.le_refl _) (by decide)
  exact ⟨K, b, hb, hG⟩
def turnL (k n : Nat) : Nat := if k < n then k else 2 * n - 1 - k
theorem turnL_f (k n : Nat) (hn : n ≤ 30) (hk : k < 2 * n) : postbaglaw4_turn.f (k : Int) (n : Int) = some ((turnL k n : Nat) : Int) ∧ turnL k n < n := by
  unfold postbaglaw4_turn.f turnL
  by_cases h : k < n
  · rw [if_pos (by omega), if_pos h]; exact ⟨rfl, h⟩
  · have e1 : wrap64 (2 * (n : Int)) = 2 * (n : Int) := by unfold wrap64; omega
    have e2 : wrap64 (2 * (n : Int) - 1) = 2 * (n : Int) - 1 := by unfold wrap64; omega
    have e3 : wrap64 (2 * (n : Int) - 1 - (k : Int)) = ((2 * n - 1 - k : Nat) : Int) := by unfold wrap64; omega
    rw [if_neg (by omega), if_neg h, e1, e2, e3]
    exact ⟨rfl, by omega⟩
end Go.Proofs.YtidcchopmbodkaaDoor.Sp
end
section
namespace Go.Proofs.YtidcchopmbodkaaDoor.Sp
open Go.RowKit Go.Proofs.YtidcchopmbodkaaDoorW.PrintWords Go.Proofs.YtidcchopmbodkaaDoorW.PrintLast Go.Proofs.YtidcchopmbodkaaDoorW.PrintMore
attribute [local go_sem] max2_int min2_int max_two min_two max_three min_three max_four min_four   -- for this text's walks alone
set_option linter.unusedVariables false
set_option linter.unusedSimpArgs false
attribute [local go_sem high] eqA28
def postbaglaw4_num.f (a0 : Int) : Option (Int) := some a0
set_option maxHeartbeats 8000000 in
set_option maxRecDepth 100000 in
theorem postbaglaw4_num.calls (a0 : Int) (r : Int) (w : World) (h : postbaglaw4_num.f a0 = some r) :
  Calls Tryd.prog 34 #[.int .i64 a0] w fun e w' => e = .returned (.int .i64 r) ∧ Drawn0 w w' := by
 have H : (some a0) = some r := h
 clear h
 obtain rfl := Option.some.inj H
 go_enter Tryd.func34, Tryd.ntmps34
 go_wp2
 go_ret
 exact ⟨by first | rfl | (simp; done) | (simp [*]; done), by repeat (first | exact Drawn0.refl _ | apply Drawn0.step)⟩
end Go.Proofs.YtidcchopmbodkaaDoor.Sp
end
