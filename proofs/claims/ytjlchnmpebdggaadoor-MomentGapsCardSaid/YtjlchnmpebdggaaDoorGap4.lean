import Derived.Test.YtjlchnmpebdggaaDoorGap3
import Derived.Test.YtjlchnmpebdggaaDoorGap2
import Derived.Test.YtjlchnmpebdggaaDoorGap0
import Derived.StillTailTactics
section
namespace Go.Proofs.YtjlchnmpebdggaaDoor.Mo
open Go.RowKit Go.Proofs.YtjlchnmpebdggaaDoorW.PrintWords
set_option linter.unusedVariables false
def formI (s : ByteArray) : Prop := s.size = 26 ∧ bt s 11 = 32 ∧ bt s 14 = 58 ∧ bt s 17 = 58 ∧ bt s 20 = 32
instance (s : ByteArray) : Decidable (formI s) := by unfold formI; exact inferInstance
def dayT (s : ByteArray) : ByteArray := if bt (s.extract 0 2) 0 = 32 then (s.extract 0 2).extract 1 2 else s.extract 0 2
theorem pair_eta {α β : Type} (p : α × β) : p = (p.1, p.2) := rfl
theorem quad_eta {α β γ δ : Type} (p : α × β × γ × δ) : p = (p.1, p.2.1, p.2.2.1, p.2.2.2) := rfl
def riD (s : ByteArray) : Int × Bool := digitsP (dayT s)
def riY (s : ByteArray) : Int × Int × Int × Bool := dayP (riD s).1 (s.extract 2 11)
def riH (s : ByteArray) : Int × Bool := belowP (s.extract 12 14) 23
def riM (s : ByteArray) : Int × Bool := belowP (s.extract 15 17) 59
def riS (s : ByteArray) : Int × Bool := belowP (s.extract 18 20) 59
def riZ (s : ByteArray) : Int × Bool := zoneT (s.extract 21 26)
def riOk (s : ByteArray) : Bool := (riD s).2 && ((riY s).2.2.2 && ((riH s).2 && ((riM s).2 && ((riS s).2 && (riZ s).2))))
def moment_ReadInternal.f (s : ByteArray) : Option (Int × Int × Int × Int × Int × Int × Int × Int) :=
  if formI s then moment_read.f (riY s).1 (riY s).2.1 (riY s).2.2.1 (riH s).1 (riM s).1 (riS s).1 (riZ s).1 (riOk s) else some (0, 0, 0, 0, 0, 0, 0, 20)
theorem at_bt (s : ByteArray) (i : Nat) (h : i < s.size) : ((s[i]'h).toNat : Int) = bt s (i : Int) := bt_at s (i : Int) (by simpa using h)
set_option maxHeartbeats 4000000 in
set_option maxRecDepth 100000 in
theorem ri_no (s : ByteArray) (w : World) (hf : ¬ formI s) (hL : Laid w) :
    Calls Tryd.prog 32 #[.string s] w fun e w' => e = .returned (.tuple #[.agg #[.int .i64 0, .int .i64 0, .int .i64 0, .int .i64 0, .int .i64 0, .int .i64 0, .int .i64 0], .int .i64 20]) ∧ Below w.heap.size w w' := by
  have HL := Lib.hid (laid_below hL (below_alloc (Below.refl _ w) (.cells #[.int .i64 0, .int .i64 0, .int .i64 0, .int .i64 0, .int .i64 0, .int .i64 0, .int .i64 0] 23)))
  have HR : Hid (moment_read.f 0 0 0 0 0 0 0 false = some (0, 0, 0, 0, 0, 0, 0, 20)) := Lib.hid rfl
  clear hL
  by_cases h26 : s.size = 26
  · have g26 : ((s.size : Int) != 26) = false := by rw [bne_eq_false_iff_eq]; omega
    have hb11 : 11 < s.size := by omega
    by_cases q11 : bt s 11 = 32
    · have e11 : ((s[11]'hb11).toNat : Int) = 32 := by rw [at_bt]; exact q11
      have hb14 : 14 < s.size := by omega
      by_cases q14 : bt s 14 = 58
      · have e14 : ((s[14]'hb14).toNat : Int) = 58 := by rw [at_bt]; exact q14
        have hb17 : 17 < s.size := by omega
        by_cases q17 : bt s 17 = 58
        · have e17 : ((s[17]'hb17).toNat : Int) = 58 := by rw [at_bt]; exact q17
          have hb20 : 20 < s.size := by omega
          by_cases q20 : bt s 20 = 32
          · have e20 : ((s[20]'hb20).toNat : Int) = 32 := by rw [at_bt]; exact q20
            exact absurd ⟨h26, q11, q14, q17, q20⟩ hf
          · have e20 : (((s[20]'hb20).toNat : Int) != 32) = true := by rw [bne_iff_ne, at_bt]; exact q20
            clear q11
            clear q14
            clear q17
            clear q20
            clear hf
            go_enter Tryd.func32, Tryd.ntmps32
            go_wp2_with fail
            refine (moment_read.calls 0 0 0 0 0 0 0 false 0 0 0 0 0 0 0 20 _ HR.out HL.out).mono ?_
            rintro e w1 ⟨rfl, hb1⟩
            have hbx := (hb1.block w.heap.size (by simp)).trans (heap_alloc_new w _)
            have HB := Lib.hid (below_step (below_alloc (Below.refl _ w) _) hb1)
            obtain ⟨⟨c0, c1, c2, c3, c4, c5, c6⟩, fz⟩ := cells7 hbx
            have z0 := fz 0
            have z1 := fz 1
            have z2 := fz 2
            have z3 := fz 3
            have z4 := fz 4
            have z5 := fz 5
            have z6 := fz 6
            have HBX := Lib.hid hbx
            clear hb1 hbx fz
            go_wp2
            exact bodyPost_ret (results_ct rfl _ _ w.heap.size 23 #[.int .i64 0, .int .i64 0, .int .i64 0, .int .i64 0, .int .i64 0, .int .i64 0, .int .i64 0] (0, 0) _ rfl (set7 HBX.out _ _ _ _ _ _ _).1 Tryd.underlying23 rfl (by kernel_rfl)) rfl ⟨rfl, (set7 HBX.out _ _ _ _ _ _ _).2 _ _ HB.out (Nat.le_refl _)⟩
        · have e17 : (((s[17]'hb17).toNat : Int) != 58) = true := by rw [bne_iff_ne, at_bt]; exact q17
          clear q11
          clear q14
          clear q17
          clear hf
          go_enter Tryd.func32, Tryd.ntmps32
          go_wp2_with fail
          refine (moment_read.calls 0 0 0 0 0 0 0 false 0 0 0 0 0 0 0 20 _ HR.out HL.out).mono ?_
          rintro e w1 ⟨rfl, hb1⟩
          have hbx := (hb1.block w.heap.size (by simp)).trans (heap_alloc_new w _)
          have HB := Lib.hid (below_step (below_alloc (Below.refl _ w) _) hb1)
          obtain ⟨⟨c0, c1, c2, c3, c4, c5, c6⟩, fz⟩ := cells7 hbx
          have z0 := fz 0
          have z1 := fz 1
          have z2 := fz 2
          have z3 := fz 3
          have z4 := fz 4
          have z5 := fz 5
          have z6 := fz 6
          have HBX := Lib.hid hbx
          clear hb1 hbx fz
          go_wp2
          exact bodyPost_ret (results_ct rfl _ _ w.heap.size 23 #[.int .i64 0, .int .i64 0, .int .i64 0, .int .i64 0, .int .i64 0, .int .i64 0, .int .i64 0] (0, 0) _ rfl (set7 HBX.out _ _ _ _ _ _ _).1 Tryd.underlying23 rfl (by kernel_rfl)) rfl ⟨rfl, (set7 HBX.out _ _ _ _ _ _ _).2 _ _ HB.out (Nat.le_refl _)⟩
      · have e14 : (((s[14]'hb14).toNat : Int) != 58) = true := by rw [bne_iff_ne, at_bt]; exact q14
        clear q11
        clear q14
        clear hf
        go_enter Tryd.func32, Tryd.ntmps32
        go_wp2_with fail
        refine (moment_read.calls 0 0 0 0 0 0 0 false 0 0 0 0 0 0 0 20 _ HR.out HL.out).mono ?_
        rintro e w1 ⟨rfl, hb1⟩
        have hbx := (hb1.block w.heap.size (by simp)).trans (heap_alloc_new w _)
        have HB := Lib.hid (below_step (below_alloc (Below.refl _ w) _) hb1)
        obtain ⟨⟨c0, c1, c2, c3, c4, c5, c6⟩, fz⟩ := cells7 hbx
        have z0 := fz 0
        have z1 := fz 1
        have z2 := fz 2
        have z3 := fz 3
        have z4 := fz 4
        have z5 := fz 5
        have z6 := fz 6
        have HBX := Lib.hid hbx
        clear hb1 hbx fz
        go_wp2
        exact bodyPost_ret (results_ct rfl _ _ w.heap.size 23 #[.int .i64 0, .int .i64 0, .int .i64 0, .int .i64 0, .int .i64 0, .int .i64 0, .int .i64 0] (0, 0) _ rfl (set7 HBX.out _ _ _ _ _ _ _).1 Tryd.underlying23 rfl (by kernel_rfl)) rfl ⟨rfl, (set7 HBX.out _ _ _ _ _ _ _).2 _ _ HB.out (Nat.le_refl _)⟩
    · have e11 : (((s[11]'hb11).toNat : Int) != 32) = true := by rw [bne_iff_ne, at_bt]; exact q11
      clear q11
      clear hf
      go_enter Tryd.func32, Tryd.ntmps32
      go_wp2_with fail
      refine (moment_read.calls 0 0 0 0 0 0 0 false 0 0 0 0 0 0 0 20 _ HR.out HL.out).mono ?_
      rintro e w1 ⟨rfl, hb1⟩
      have hbx := (hb1.block w.heap.size (by simp)).trans (heap_alloc_new w _)
      have HB := Lib.hid (below_step (below_alloc (Below.refl _ w) _) hb1)
      obtain ⟨⟨c0, c1, c2, c3, c4, c5, c6⟩, fz⟩ := cells7 hbx
      have z0 := fz 0
      have z1 := fz 1
      have z2 := fz 2
      have z3 := fz 3
      have z4 := fz 4
      have z5 := fz 5
      have z6 := fz 6
      have HBX := Lib.hid hbx
      clear hb1 hbx fz
      go_wp2
      exact bodyPost_ret (results_ct rfl _ _ w.heap.size 23 #[.int .i64 0, .int .i64 0, .int .i64 0, .int .i64 0, .int .i64 0, .int .i64 0, .int .i64 0] (0, 0) _ rfl (set7 HBX.out _ _ _ _ _ _ _).1 Tryd.underlying23 rfl (by kernel_rfl)) rfl ⟨rfl, (set7 HBX.out _ _ _ _ _ _ _).2 _ _ HB.out (Nat.le_refl _)⟩
  · have g26 : ((s.size : Int) != 26) = true := by rw [bne_iff_ne]; omega
    clear h26
    clear hf
    go_enter Tryd.func32, Tryd.ntmps32
    go_wp2_with fail
    refine (moment_read.calls 0 0 0 0 0 0 0 false 0 0 0 0 0 0 0 20 _ HR.out HL.out).mono ?_
    rintro e w1 ⟨rfl, hb1⟩
    have hbx := (hb1.block w.heap.size (by simp)).trans (heap_alloc_new w _)
    have HB := Lib.hid (below_step (below_alloc (Below.refl _ w) _) hb1)
    obtain ⟨⟨c0, c1, c2, c3, c4, c5, c6⟩, fz⟩ := cells7 hbx
    have z0 := fz 0
    have z1 := fz 1
    have z2 := fz 2
    have z3 := fz 3
    have z4 := fz 4
    have z5 := fz 5
    have z6 := fz 6
    have HBX := Lib.hid hbx
    clear hb1 hbx fz
    go_wp2
    exact bodyPost_ret (results_ct rfl _ _ w.heap.size 23 #[.int .i64 0, .int .i64 0, .int .i64 0, .int .i64 0, .int .i64 0, .int .i64 0, .int .i64 0] (0, 0) _ rfl (set7 HBX.out _ _ _ _ _ _ _).1 Tryd.underlying23 rfl (by kernel_rfl)) rfl ⟨rfl, (set7 HBX.out _ _ _ _ _ _ _).2 _ _ HB.out (Nat.le_refl _)⟩
set_option maxHeartbeats 8000000 in
set_option maxRecDepth 100000 in
theorem ri_yes (s D : ByteArray) (n y mo dd hh mi se zz : Int) (a b c e f g : Bool) (r1 r2 r3 r4 r5 r6 r7 r8 : Int) (w : World) (hf : formI s) (hD : dayT s = D)
    (h1 : digitsP D = (n, a)) (h2 : dayP n (s.extract 2 11) = (y, mo, dd, b)) (h3 : belowP (s.extract 12 14) 23 = (hh, c)) (h4 : belowP (s.extract 15 17) 59 = (mi, e)) (h5 : belowP (s.extract 18 20) 59 = (se, f)) (h6 : zoneT (s.extract 21 26) = (zz, g))
    (h : moment_read.f y mo dd hh mi se zz (a && (b && (c && (e && (f && g))))) = some (r1, r2, r3, r4, r5, r6, r7, r8)) (hL : Laid w) :
    Calls Tryd.prog 32 #[.string s] w fun e w' => e = .returned (.tuple #[.agg #[.int .i64 r1, .int .i64 r2, .int .i64 r3, .int .i64 r4, .int .i64 r5, .int .i64 r6, .int .i64 r7], .int .i64 r8]) ∧ Below w.heap.size w w' := by
  obtain ⟨h26, q11, q14, q17, q20⟩ := hf
  have sl1 : ∀ w' : World, (Instr.slice 9 (.string s) (some (.int .i64 2)) (some (.int .i64 11)) none).run Tryd.prog w' = .ok (.string (s.extract 2 11)) w' := fun w' => by rw [run_slice_string (P := Tryd.prog) w' 9 s .i64 .i64 2 11 Tryd.underlying9 (by omega) (by omega) (by omega)]; rfl
  have sl2 : ∀ w' : World, (Instr.slice 9 (.string s) (some (.int .i64 12)) (some (.int .i64 14)) none).run Tryd.prog w' = .ok (.string (s.extract 12 14)) w' := fun w' => by rw [run_slice_string (P := Tryd.prog) w' 9 s .i64 .i64 12 14 Tryd.underlying9 (by omega) (by omega) (by omega)]; rfl
  have sl3 : ∀ w' : World, (Instr.slice 9 (.string s) (some (.int .i64 15)) (some (.int .i64 17)) none).run Tryd.prog w' = .ok (.string (s.extract 15 17)) w' := fun w' => by rw [run_slice_string (P := Tryd.prog) w' 9 s .i64 .i64 15 17 Tryd.underlying9 (by omega) (by omega) (by omega)]; rfl
  have sl4 : ∀ w' : World, (Instr.slice 9 (.string s) (some (.int .i64 18)) (some (.int .i64 20)) none).run Tryd.prog w' = .ok (.string (s.extract 18 20)) w' := fun w' => by rw [run_slice_string (P := Tryd.prog) w' 9 s .i64 .i64 18 20 Tryd.underlying9 (by omega) (by omega) (by omega)]; rfl
  have H1 : Hid (moment_digits.f 7 D = some (n, a)) := Lib.hid (by rw [digits_f 7 (by omega), h1])
  have H2 : Hid (moment_day.f n (s.extract 2 11) = some (y, mo, dd, 0, 0, 0, 0, b)) := Lib.hid (by unfold moment_day.f; rw [h2])
  have H3 : Hid (moment_below.f 7 (s.extract 12 14) 23 = some (hh, c)) := Lib.hid (by rw [below_f 7 (by omega), h3])
  have H4 : Hid (moment_below.f 7 (s.extract 15 17) 59 = some (mi, e)) := Lib.hid (by rw [below_f 7 (by omega), h4])
  have H5 : Hid (moment_below.f 7 (s.extract 18 20) 59 = some (se, f)) := Lib.hid (by rw [below_f 7 (by omega), h5])
  have H6 : Hid (moment_zone.f 10 (s.extract 21 s.size) = some (zz, g)) := Lib.hid (by rw [h26, zone_f 10 (by omega), h6])
  have HR := Lib.hid h
  have HLD := Lib.hid hL
  have g26 : ((s.size : Int) != 26) = false := by rw [bne_eq_false_iff_eq]; omega
  have hb11 : 11 < s.size := by omega
  have e11 : ((s[11]'hb11).toNat : Int) = 32 := by rw [at_bt]; exact q11
  have hb14 : 14 < s.size := by omega
  have e14 : ((s[14]'hb14).toNat : Int) = 58 := by rw [at_bt]; exact q14
  have hb17 : 17 < s.size := by omega
  have e17 : ((s[17]'hb17).toNat : Int) = 58 := by rw [at_bt]; exact q17
  have hb20 : 20 < s.size := by omega
  have e20 : ((s[20]'hb20).toNat : Int) = 32 := by rw [at_bt]; exact q20
  have hDt : D = if bt (s.extract 0 2) 0 = 32 then (s.extract 0 2).extract 1 (s.extract 0 2).size else s.extract 0 2 := by
    rw [← hD]; unfold dayT
    have : (s.extract 0 2).size = 2 := by rw [ByteArray.size_extract]; omega
    rw [this]
  have hT2 : (s.extract 0 2).size = 2 := by rw [ByteArray.size_extract]; omega
  have hb26 : 26 ≤ s.size := by omega
  have H26 := Lib.hid h26
  have HDT := Lib.hid hDt
  clear h1 h2 h3 h4 h5 h6 h hL hD hDt q11 q14 q17 q20 h26
  go_enter Tryd.func32, Tryd.ntmps32
  go_upto_region 4 with fail
  obtain ⟨T, hT⟩ : ∃ T, s.extract 0 2 = T := ⟨_, rfl⟩
  rw [hT] at HDT hT2 ⊢
  clear hT
  have hT0 : 0 < T.size := by omega
  have hT1 : 1 ≤ T.size := by omega
  have HT2 := Lib.hid hT2
  clear hT2
  have key : ∀ (W : World), True := fun _ => trivial
  clear key
  by_cases q0 : bt T 0 = 32
  · skip
    have e0 : ((T[0]'hT0).toNat : Int) = 32 := by rw [at_bt]; exact q0
    have HDD : Hid (D = T.extract 1 T.size) := Lib.hid (by rw [HDT.out, if_pos q0])
    clear q0 HDT
    have H1x : Hid (moment_digits.f 7 (T.extract 1 T.size) = some (n, a)) := Lib.hid (by rw [← HDD.out]; exact H1.out)
    go_wp2_with fail
    refine (moment_digits.calls 7 (T.extract 1 T.size) n a _ H1x.out).mono ?_
    rintro e1 w1 ⟨rfl, ⟨nd, rfl⟩⟩
    go_wp2_with fail
    refine (moment_day.calls n (s.extract 2 11) y mo dd 0 0 0 0 b _ H2.out).mono ?_
    rintro e1 w1 ⟨rfl, hb1⟩
    have hr1 : w1.heap[w.heap.size]? = some (.cells #[.int .i64 0, .int .i64 0, .int .i64 0, .int .i64 0, .int .i64 0, .int .i64 0, .int .i64 0] 23 (0, 0)) := (hb1.block w.heap.size (by simp)).trans (heap_alloc_new w _)
    have hbe1 : Below w.heap.size w w1 := below_step (by repeat (first | (with_reducible exact Below.refl _ _) | (with_reducible apply pw_below_drewN) | (with_reducible apply below_alloc))) hb1
    have HR1 := Lib.hid hr1
    have HBE1 := Lib.hid hbe1
    have hlt1 : w.heap.size < w1.heap.size := blk_lt hr1
    clear hb1 hr1 hbe1
    go_wp2_with fail
    have hmb := heap_alloc_new w1 (.cells #[.int .i64 y, .int .i64 mo, .int .i64 dd, .int .i64 0, .int .i64 0, .int .i64 0, .int .i64 0] 23)
    have hr2 := (Below.heap_alloc w1 (.cells #[.int .i64 y, .int .i64 mo, .int .i64 dd, .int .i64 0, .int .i64 0, .int .i64 0, .int .i64 0] 23) _ hlt1).trans HR1.out
    have hbe2 := below_alloc HBE1.out (.cells #[.int .i64 y, .int .i64 mo, .int .i64 dd, .int .i64 0, .int .i64 0, .int .i64 0, .int .i64 0] 23)
    generalize w1.alloc (.cells #[.int .i64 y, .int .i64 mo, .int .i64 dd, .int .i64 0, .int .i64 0, .int .i64 0, .int .i64 0] 23) = w2 at *
    generalize w1.heap.size = mb at *
    have HMB := Lib.hid hmb
    have HR2 := Lib.hid hr2
    have HBE2 := Lib.hid hbe2
    clear hmb hr2 hbe2 HR1 HBE1
    refine (moment_below.calls 7 (s.extract 12 14) 23 hh c _ H3.out).mono ?_
    rintro e1 w3 ⟨rfl, ⟨nd0, rfl⟩⟩
    go_wp2_with fail
    refine (moment_below.calls 7 (s.extract 15 17) 59 mi e _ H4.out).mono ?_
    rintro e1 w3 ⟨rfl, ⟨nd1, rfl⟩⟩
    go_wp2_with fail
    refine (moment_below.calls 7 (s.extract 18 20) 59 se f _ H5.out).mono ?_
    rintro e1 w3 ⟨rfl, ⟨nd2, rfl⟩⟩
    go_wp2_with fail
    refine (moment_zone.calls 10 (s.extract 21 s.size) zz g _ H6.out).mono ?_
    rintro e1 w3 ⟨rfl, ⟨nd9, rfl⟩⟩
    go_upto_region 12 with fail
    have hm3 := blk_drewN HMB.out (nd0 + nd1 + nd2 + nd9)
    have hr3 := blk_drewN HR2.out (nd0 + nd1 + nd2 + nd9)
    have hbe3 := pw_below_drewN HBE2.out (nd0 + nd1 + nd2 + nd9)
    generalize w2.drewN (nd0 + nd1 + nd2 + nd9) = W at *
    clear HMB HR2 HBE2
    obtain ⟨⟨c0, c1, c2, c3, c4, c5, c6⟩, fz⟩ := cells7 hm3
    have z3 := fz 3
    have z4 := fz 4
    have z5 := fz 5
    have z6 := fz 6
    have HM3 := Lib.hid hm3
    have HR3 := Lib.hid hr3
    have HBE3 := Lib.hid hbe3
    clear fz hm3 hr3 hbe3
    go_upto_region 13 with fail
    have hm4 := blk_put (cs' := #[.int .i64 y, .int .i64 mo, .int .i64 dd, .int .i64 hh, .int .i64 mi, .int .i64 se, .int .i64 zz]) (blk_put (cs' := #[.int .i64 y, .int .i64 mo, .int .i64 dd, .int .i64 hh, .int .i64 mi, .int .i64 se, .int .i64 0]) (blk_put (cs' := #[.int .i64 y, .int .i64 mo, .int .i64 dd, .int .i64 hh, .int .i64 mi, .int .i64 0, .int .i64 0]) (blk_put (cs' := #[.int .i64 y, .int .i64 mo, .int .i64 dd, .int .i64 hh, .int .i64 0, .int .i64 0, .int .i64 0]) HM3.out 3 (.int .i64 hh) rfl) 4 (.int .i64 mi) rfl) 5 (.int .i64 se) rfl) 6 (.int .i64 zz) rfl
    have hne : w.heap.size ≠ mb := Nat.ne_of_lt hlt1
    have hr4 := blk_far (p := ⟨mb, 6, none⟩) (blk_far (p := ⟨mb, 5, none⟩) (blk_far (p := ⟨mb, 4, none⟩) (blk_far (p := ⟨mb, 3, none⟩) HR3.out hne (.int .i64 hh)) hne (.int .i64 mi)) hne (.int .i64 se)) hne (.int .i64 zz)
    have hbe4 := (((HBE3.out.setCell (p := ⟨mb, 3, none⟩) (Nat.le_of_lt hlt1) (.int .i64 hh)).setCell (p := ⟨mb, 4, none⟩) (Nat.le_of_lt hlt1) (.int .i64 mi)).setCell (p := ⟨mb, 5, none⟩) (Nat.le_of_lt hlt1) (.int .i64 se)).setCell (p := ⟨mb, 6, none⟩) (Nat.le_of_lt hlt1) (.int .i64 zz)
    clear c0 c1 c2 c3 c4 c5 c6 z3 z4 z5 z6
    generalize (((W.setCell ⟨mb, 3, none⟩ (.int .i64 hh)).setCell ⟨mb, 4, none⟩ (.int .i64 mi)).setCell ⟨mb, 5, none⟩ (.int .i64 se)).setCell ⟨mb, 6, none⟩ (.int .i64 zz) = W2 at *
    obtain ⟨⟨c0, c1, c2, c3, c4, c5, c6⟩, _⟩ := cells7 hm4
    have HR4 := Lib.hid hr4
    have HBE4 := Lib.hid hbe4
    have HLD4 := Lib.hid (laid_below HLD.out hbe4)
    clear hm4 hr4 hbe4 HM3 HR3 HBE3 hne HLD sl1 sl2 sl3 sl4 e11 e14 e17 e20 g26
    cases a with
    | false =>
      have HK : Hid (moment_read.f y mo dd hh mi se zz false = some (r1, r2, r3, r4, r5, r6, r7, r8)) := Lib.hid (by have h := HR.out; simpa using h)
      clear HR
      go_wp2_with fail
      refine (moment_read.calls y mo dd hh mi se zz false r1 r2 r3 r4 r5 r6 r7 r8 _ HK.out HLD4.out).mono ?_
      rintro e1 w5 ⟨rfl, hb5⟩
      have hr5 := (hb5.block w.heap.size (blk_lt HR4.out)).trans HR4.out
      have HBE5 := Lib.hid (below_step HBE4.out hb5)
      clear c0 c1 c2 c3 c4 c5 c6 hb5
      obtain ⟨⟨c0, c1, c2, c3, c4, c5, c6⟩, fz⟩ := cells7 hr5
      have z0 := fz 0
      have z1 := fz 1
      have z2 := fz 2
      have z3 := fz 3
      have z4 := fz 4
      have z5 := fz 5
      have z6 := fz 6
      have HR5 := Lib.hid hr5
      clear fz hr5
      go_wp2
      exact bodyPost_ret (results_ct rfl _ _ w.heap.size 23 #[.int .i64 r1, .int .i64 r2, .int .i64 r3, .int .i64 r4, .int .i64 r5, .int .i64 r6, .int .i64 r7] (0, 0) _ rfl (set7 HR5.out _ _ _ _ _ _ _).1 Tryd.underlying23 rfl (by kernel_rfl)) rfl ⟨rfl, (set7 HR5.out _ _ _ _ _ _ _).2 _ _ HBE5.out (Nat.le_refl _)⟩
    | true =>
      cases b with
      | false =>
        have HK : Hid (moment_read.f y mo dd hh mi se zz false = some (r1, r2, r3, r4, r5, r6, r7, r8)) := Lib.hid (by have h := HR.out; simpa using h)
        clear HR
        go_wp2_with fail
        refine (moment_read.calls y mo dd hh mi se zz false r1 r2 r3 r4 r5 r6 r7 r8 _ HK.out HLD4.out).mono ?_
        rintro e1 w5 ⟨rfl, hb5⟩
        have hr5 := (hb5.block w.heap.size (blk_lt HR4.out)).trans HR4.out
        have HBE5 := Lib.hid (below_step HBE4.out hb5)
        clear c0 c1 c2 c3 c4 c5 c6 hb5
        obtain ⟨⟨c0, c1, c2, c3, c4, c5, c6⟩, fz⟩ := cells7 hr5
        have z0 := fz 0
        have z1 := fz 1
        have z2 := fz 2
        have z3 := fz 3
        have z4 := fz 4
        have z5 := fz 5
        have z6 := fz 6
        have HR5 := Lib.hid hr5
        clear fz hr5
        go_wp2
        exact bodyPost_ret (results_ct rfl _ _ w.heap.size 23 #[.int .i64 r1, .int .i64 r2, .int .i64 r3, .int .i64 r4, .int .i64 r5, .int .i64 r6, .int .i64 r7] (0, 0) _ rfl (set7 HR5.out _ _ _ _ _ _ _).1 Tryd.underlying23 rfl (by kernel_rfl)) rfl ⟨rfl, (set7 HR5.out _ _ _ _ _ _ _).2 _ _ HBE5.out (Nat.le_refl _)⟩
      | true =>
        cases c with
        | false =>
          have HK : Hid (moment_read.f y mo dd hh mi se zz false = some (r1, r2, r3, r4, r5, r6, r7, r8)) := Lib.hid (by have h := HR.out; simpa using h)
          clear HR
          go_wp2_with fail
          refine (moment_read.calls y mo dd hh mi se zz false r1 r2 r3 r4 r5 r6 r7 r8 _ HK.out HLD4.out).mono ?_
          rintro e1 w5 ⟨rfl, hb5⟩
          have hr5 := (hb5.block w.heap.size (blk_lt HR4.out)).trans HR4.out
          have HBE5 := Lib.hid (below_step HBE4.out hb5)
          clear c0 c1 c2 c3 c4 c5 c6 hb5
          obtain ⟨⟨c0, c1, c2, c3, c4, c5, c6⟩, fz⟩ := cells7 hr5
          have z0 := fz 0
          have z1 := fz 1
          have z2 := fz 2
          have z3 := fz 3
          have z4 := fz 4
          have z5 := fz 5
          have z6 := fz 6
          have HR5 := Lib.hid hr5
          clear fz hr5
          go_wp2
          exact bodyPost_ret (results_ct rfl _ _ w.heap.size 23 #[.int .i64 r1, .int .i64 r2, .int .i64 r3, .int .i64 r4, .int .i64 r5, .int .i64 r6, .int .i64 r7] (0, 0) _ rfl (set7 HR5.out _ _ _ _ _ _ _).1 Tryd.underlying23 rfl (by kernel_rfl)) rfl ⟨rfl, (set7 HR5.out _ _ _ _ _ _ _).2 _ _ HBE5.out (Nat.le_refl _)⟩
        | true =>
          cases e with
          | false =>
            have HK : Hid (moment_read.f y mo dd hh mi se zz false = some (r1, r2, r3, r4, r5, r6, r7, r8)) := Lib.hid (by have h := HR.out; simpa using h)
            clear HR
            go_wp2_with fail
            refine (moment_read.calls y mo dd hh mi se zz false r1 r2 r3 r4 r5 r6 r7 r8 _ HK.out HLD4.out).mono ?_
            rintro e1 w5 ⟨rfl, hb5⟩
            have hr5 := (hb5.block w.heap.size (blk_lt HR4.out)).trans HR4.out
            have HBE5 := Lib.hid (below_step HBE4.out hb5)
            clear c0 c1 c2 c3 c4 c5 c6 hb5
            obtain ⟨⟨c0, c1, c2, c3, c4, c5, c6⟩, fz⟩ := cells7 hr5
            have z0 := fz 0
            have z1 := fz 1
            have z2 := fz 2
            have z3 := fz 3
            have z4 := fz 4
            have z5 := fz 5
            have z6 := fz 6
            have HR5 := Lib.hid hr5
            clear fz hr5
            go_wp2
            exact bodyPost_ret (results_ct rfl _ _ w.heap.size 23 #[.int .i64 r1, .int .i64 r2, .int .i64 r3, .int .i64 r4, .int .i64 r5, .int .i64 r6, .int .i64 r7] (0, 0) _ rfl (set7 HR5.out _ _ _ _ _ _ _).1 Tryd.underlying23 rfl (by kernel_rfl)) rfl ⟨rfl, (set7 HR5.out _ _ _ _ _ _ _).2 _ _ HBE5.out (Nat.le_refl _)⟩
          | true =>
            cases f with
            | false =>
              have HK : Hid (moment_read.f y mo dd hh mi se zz false = some (r1, r2, r3, r4, r5, r6, r7, r8)) := Lib.hid (by have h := HR.out; simpa using h)
              clear HR
              go_wp2_with fail
              refine (moment_read.calls y mo dd hh mi se zz false r1 r2 r3 r4 r5 r6 r7 r8 _ HK.out HLD4.out).mono ?_
              rintro e1 w5 ⟨rfl, hb5⟩
              have hr5 := (hb5.block w.heap.size (blk_lt HR4.out)).trans HR4.out
              have HBE5 := Lib.hid (below_step HBE4.out hb5)
              clear c0 c1 c2 c3 c4 c5 c6 hb5
              obtain ⟨⟨c0, c1, c2, c3, c4, c5, c6⟩, fz⟩ := cells7 hr5
              have z0 := fz 0
              have z1 := fz 1
              have z2 := fz 2
              have z3 := fz 3
              have z4 := fz 4
              have z5 := fz 5
              have z6 := fz 6
              have HR5 := Lib.hid hr5
              clear fz hr5
              go_wp2
              exact bodyPost_ret (results_ct rfl _ _ w.heap.size 23 #[.int .i64 r1, .int .i64 r2, .int .i64 r3, .int .i64 r4, .int .i64 r5, .int .i64 r6, .int .i64 r7] (0, 0) _ rfl (set7 HR5.out _ _ _ _ _ _ _).1 Tryd.underlying23 rfl (by kernel_rfl)) rfl ⟨rfl, (set7 HR5.out _ _ _ _ _ _ _).2 _ _ HBE5.out (Nat.le_refl _)⟩
            | true =>
              cases g with
              | false =>
                have HK : Hid (moment_read.f y mo dd hh mi se zz false = some (r1, r2, r3, r4, r5, r6, r7, r8)) := Lib.hid (by have h := HR.out; simpa using h)
                clear HR
                go_wp2_with fail
                refine (moment_read.calls y mo dd hh mi se zz false r1 r2 r3 r4 r5 r6 r7 r8 _ HK.out HLD4.out).mono ?_
                rintro e1 w5 ⟨rfl, hb5⟩
                have hr5 := (hb5.block w.heap.size (blk_lt HR4.out)).trans HR4.out
                have HBE5 := Lib.hid (below_step HBE4.out hb5)
                clear c0 c1 c2 c3 c4 c5 c6 hb5
                obtain ⟨⟨c0, c1, c2, c3, c4, c5, c6⟩, fz⟩ := cells7 hr5
                have z0 := fz 0
                have z1 := fz 1
                have z2 := fz 2
                have z3 := fz 3
                have z4 := fz 4
                have z5 := fz 5
                have z6 := fz 6
                have HR5 := Lib.hid hr5
                clear fz hr5
                go_wp2
                exact bodyPost_ret (results_ct rfl _ _ w.heap.size 23 #[.int .i64 r1, .int .i64 r2, .int .i64 r3, .int .i64 r4, .int .i64 r5, .int .i64 r6, .int .i64 r7] (0, 0) _ rfl (set7 HR5.out _ _ _ _ _ _ _).1 Tryd.underlying23 rfl (by kernel_rfl)) rfl ⟨rfl, (set7 HR5.out _ _ _ _ _ _ _).2 _ _ HBE5.out (Nat.le_refl _)⟩
              | true =>
                have HK : Hid (moment_read.f y mo dd hh mi se zz true = some (r1, r2, r3, r4, r5, r6, r7, r8)) := Lib.hid (by have h := HR.out; simpa using h)
                clear HR
                go_wp2_with fail
                refine (moment_read.calls y mo dd hh mi se zz true r1 r2 r3 r4 r5 r6 r7 r8 _ HK.out HLD4.out).mono ?_
                rintro e1 w5 ⟨rfl, hb5⟩
                have hr5 := (hb5.block w.heap.size (blk_lt HR4.out)).trans HR4.out
                have HBE5 := Lib.hid (below_step HBE4.out hb5)
                clear c0 c1 c2 c3 c4 c5 c6 hb5
                obtain ⟨⟨c0, c1, c2, c3, c4, c5, c6⟩, fz⟩ := cells7 hr5
                have z0 := fz 0
                have z1 := fz 1
                have z2 := fz 2
                have z3 := fz 3
                have z4 := fz 4
                have z5 := fz 5
                have z6 := fz 6
                have HR5 := Lib.hid hr5
                clear fz hr5
                go_wp2
                exact bodyPost_ret (results_ct rfl _ _ w.heap.size 23 #[.int .i64 r1, .int .i64 r2, .int .i64 r3, .int .i64 r4, .int .i64 r5, .int .i64 r6, .int .i64 r7] (0, 0) _ rfl (set7 HR5.out _ _ _ _ _ _ _).1 Tryd.underlying23 rfl (by kernel_rfl)) rfl ⟨rfl, (set7 HR5.out _ _ _ _ _ _ _).2 _ _ HBE5.out (Nat.le_refl _)⟩
  · skip
    have e0 : (((T[0]'hT0).toNat : Int) == 32) = false := by rw [beq_eq_false_iff_ne, at_bt]; exact q0
    have HDD : Hid (D = T) := Lib.hid (by rw [HDT.out, if_neg q0])
    clear q0 HDT
    have H1x : Hid (moment_digits.f 7 T = some (n, a)) := Lib.hid (by rw [← HDD.out]; exact H1.out)
    go_wp2_with fail
    refine (moment_digits.calls 7 T n a _ H1x.out).mono ?_
    rintro e1 w1 ⟨rfl, ⟨nd, rfl⟩⟩
    go_wp2_with fail
    refine (moment_day.calls n (s.extract 2 11) y mo dd 0 0 0 0 b _ H2.out).mono ?_
    rintro e1 w1 ⟨rfl, hb1⟩
    have hr1 : w1.heap[w.heap.size]? = some (.cells #[.int .i64 0, .int .i64 0, .int .i64 0, .int .i64 0, .int .i64 0, .int .i64 0, .int .i64 0] 23 (0, 0)) := (hb1.block w.heap.size (by simp)).trans (heap_alloc_new w _)
    have hbe1 : Below w.heap.size w w1 := below_step (by repeat (first | (with_reducible exact Below.refl _ _) | (with_reducible apply pw_below_drewN) | (with_reducible apply below_alloc))) hb1
    have HR1 := Lib.hid hr1
    have HBE1 := Lib.hid hbe1
    have hlt1 : w.heap.size < w1.heap.size := blk_lt hr1
    clear hb1 hr1 hbe1
    go_wp2_with fail
    have hmb := heap_alloc_new w1 (.cells #[.int .i64 y, .int .i64 mo, .int .i64 dd, .int .i64 0, .int .i64 0, .int .i64 0, .int .i64 0] 23)
    have hr2 := (Below.heap_alloc w1 (.cells #[.int .i64 y, .int .i64 mo, .int .i64 dd, .int .i64 0, .int .i64 0, .int .i64 0, .int .i64 0] 23) _ hlt1).trans HR1.out
    have hbe2 := below_alloc HBE1.out (.cells #[.int .i64 y, .int .i64 mo, .int .i64 dd, .int .i64 0, .int .i64 0, .int .i64 0, .int .i64 0] 23)
    generalize w1.alloc (.cells #[.int .i64 y, .int .i64 mo, .int .i64 dd, .int .i64 0, .int .i64 0, .int .i64 0, .int .i64 0] 23) = w2 at *
    generalize w1.heap.size = mb at *
    have HMB := Lib.hid hmb
    have HR2 := Lib.hid hr2
    have HBE2 := Lib.hid hbe2
    clear hmb hr2 hbe2 HR1 HBE1
    refine (moment_below.calls 7 (s.extract 12 14) 23 hh c _ H3.out).mono ?_
    rintro e1 w3 ⟨rfl, ⟨nd0, rfl⟩⟩
    go_wp2_with fail
    refine (moment_below.calls 7 (s.extract 15 17) 59 mi e _ H4.out).mono ?_
    rintro e1 w3 ⟨rfl, ⟨nd1, rfl⟩⟩
    go_wp2_with fail
    refine (moment_below.calls 7 (s.extract 18 20) 59 se f _ H5.out).mono ?_
    rintro e1 w3 ⟨rfl, ⟨nd2, rfl⟩⟩
    go_wp2_with fail
    refine (moment_zone.calls 10 (s.extract 21 s.size) zz g _ H6.out).mono ?_
    rintro e1 w3 ⟨rfl, ⟨nd9, rfl⟩⟩
    go_upto_region 12 with fail
    have hm3 := blk_drewN HMB.out (nd0 + nd1 + nd2 + nd9)
    have hr3 := blk_drewN HR2.out (nd0 + nd1 + nd2 + nd9)
    have hbe3 := pw_below_drewN HBE2.out (nd0 + nd1 + nd2 + nd9)
    generalize w2.drewN (nd0 + nd1 + nd2 + nd9) = W at *
    clear HMB HR2 HBE2
    obtain ⟨⟨c0, c1, c2, c3, c4, c5, c6⟩, fz⟩ := cells7 hm3
    have z3 := fz 3
    have z4 := fz 4
    have z5 := fz 5
    have z6 := fz 6
    have HM3 := Lib.hid hm3
    have HR3 := Lib.hid hr3
    have HBE3 := Lib.hid hbe3
    clear fz hm3 hr3 hbe3
    go_upto_region 13 with fail
    have hm4 := blk_put (cs' := #[.int .i64 y, .int .i64 mo, .int .i64 dd, .int .i64 hh, .int .i64 mi, .int .i64 se, .int .i64 zz]) (blk_put (cs' := #[.int .i64 y, .int .i64 mo, .int .i64 dd, .int .i64 hh, .int .i64 mi, .int .i64 se, .int .i64 0]) (blk_put (cs' := #[.int .i64 y, .int .i64 mo, .int .i64 dd, .int .i64 hh, .int .i64 mi, .int .i64 0, .int .i64 0]) (blk_put (cs' := #[.int .i64 y, .int .i64 mo, .int .i64 dd, .int .i64 hh, .int .i64 0, .int .i64 0, .int .i64 0]) HM3.out 3 (.int .i64 hh) rfl) 4 (.int .i64 mi) rfl) 5 (.int .i64 se) rfl) 6 (.int .i64 zz) rfl
    have hne : w.heap.size ≠ mb := Nat.ne_of_lt hlt1
    have hr4 := blk_far (p := ⟨mb, 6, none⟩) (blk_far (p := ⟨mb, 5, none⟩) (blk_far (p := ⟨mb, 4, none⟩) (blk_far (p := ⟨mb, 3, none⟩) HR3.out hne (.int .i64 hh)) hne (.int .i64 mi)) hne (.int .i64 se)) hne (.int .i64 zz)
    have hbe4 := (((HBE3.out.setCell (p := ⟨mb, 3, none⟩) (Nat.le_of_lt hlt1) (.int .i64 hh)).setCell (p := ⟨mb, 4, none⟩) (Nat.le_of_lt hlt1) (.int .i64 mi)).setCell (p := ⟨mb, 5, none⟩) (Nat.le_of_lt hlt1) (.int .i64 se)).setCell (p := ⟨mb, 6, none⟩) (Nat.le_of_lt hlt1) (.int .i64 zz)
    clear c0 c1 c2 c3 c4 c5 c6 z3 z4 z5 z6
    generalize (((W.setCell ⟨mb, 3, none⟩ (.int .i64 hh)).setCell ⟨mb, 4, none⟩ (.int .i64 mi)).setCell ⟨mb, 5, none⟩ (.int .i64 se)).setCell ⟨mb, 6, none⟩ (.int .i64 zz) = W2 at *
    obtain ⟨⟨c0, c1, c2, c3, c4, c5, c6⟩, _⟩ := cells7 hm4
    have HR4 := Lib.hid hr4
    have HBE4 := Lib.hid hbe4
    have HLD4 := Lib.hid (laid_below HLD.out hbe4)
    clear hm4 hr4 hbe4 HM3 HR3 HBE3 hne HLD sl1 sl2 sl3 sl4 e11 e14 e17 e20 g26
    cases a with
    | false =>
      have HK : Hid (moment_read.f y mo dd hh mi se zz false = some (r1, r2, r3, r4, r5, r6, r7, r8)) := Lib.hid (by have h := HR.out; simpa using h)
      clear HR
      go_wp2_with fail
      refine (moment_read.calls y mo dd hh mi se zz false r1 r2 r3 r4 r5 r6 r7 r8 _ HK.out HLD4.out).mono ?_
      rintro e1 w5 ⟨rfl, hb5⟩
      have hr5 := (hb5.block w.heap.size (blk_lt HR4.out)).trans HR4.out
      have HBE5 := Lib.hid (below_step HBE4.out hb5)
      clear c0 c1 c2 c3 c4 c5 c6 hb5
      obtain ⟨⟨c0, c1, c2, c3, c4, c5, c6⟩, fz⟩ := cells7 hr5
      have z0 := fz 0
      have z1 := fz 1
      have z2 := fz 2
      have z3 := fz 3
      have z4 := fz 4
      have z5 := fz 5
      have z6 := fz 6
      have HR5 := Lib.hid hr5
      clear fz hr5
      go_wp2
      exact bodyPost_ret (results_ct rfl _ _ w.heap.size 23 #[.int .i64 r1, .int .i64 r2, .int .i64 r3, .int .i64 r4, .int .i64 r5, .int .i64 r6, .int .i64 r7] (0, 0) _ rfl (set7 HR5.out _ _ _ _ _ _ _).1 Tryd.underlying23 rfl (by kernel_rfl)) rfl ⟨rfl, (set7 HR5.out _ _ _ _ _ _ _).2 _ _ HBE5.out (Nat.le_refl _)⟩
    | true =>
      cases b with
      | false =>
        have HK : Hid (moment_read.f y mo dd hh mi se zz false = some (r1, r2, r3, r4, r5, r6, r7, r8)) := Lib.hid (by have h := HR.out; simpa using h)
        clear HR
        go_wp2_with fail
        refine (moment_read.calls y mo dd hh mi se zz false r1 r2 r3 r4 r5 r6 r7 r8 _ HK.out HLD4.out).mono ?_
        rintro e1 w5 ⟨rfl, hb5⟩
        have hr5 := (hb5.block w.heap.size (blk_lt HR4.out)).trans HR4.out
        have HBE5 := Lib.hid (below_step HBE4.out hb5)
        clear c0 c1 c2 c3 c4 c5 c6 hb5
        obtain ⟨⟨c0, c1, c2, c3, c4, c5, c6⟩, fz⟩ := cells7 hr5
        have z0 := fz 0
        have z1 := fz 1
        have z2 := fz 2
        have z3 := fz 3
        have z4 := fz 4
        have z5 := fz 5
        have z6 := fz 6
        have HR5 := Lib.hid hr5
        clear fz hr5
        go_wp2
        exact bodyPost_ret (results_ct rfl _ _ w.heap.size 23 #[.int .i64 r1, .int .i64 r2, .int .i64 r3, .int .i64 r4, .int .i64 r5, .int .i64 r6, .int .i64 r7] (0, 0) _ rfl (set7 HR5.out _ _ _ _ _ _ _).1 Tryd.underlying23 rfl (by kernel_rfl)) rfl ⟨rfl, (set7 HR5.out _ _ _ _ _ _ _).2 _ _ HBE5.out (Nat.le_refl _)⟩
      | true =>
        cases c with
        | false =>
          have HK : Hid (moment_read.f y mo dd hh mi se zz false = some (r1, r2, r3, r4, r5, r6, r7, r8)) := Lib.hid (by have h := HR.out; simpa using h)
          clear HR
          go_wp2_with fail
          refine (moment_read.calls y mo dd hh mi se zz false r1 r2 r3 r4 r5 r6 r7 r8 _ HK.out HLD4.out).mono ?_
          rintro e1 w5 ⟨rfl, hb5⟩
          have hr5 := (hb5.block w.heap.size (blk_lt HR4.out)).trans HR4.out
          have HBE5 := Lib.hid (below_step HBE4.out hb5)
          clear c0 c1 c2 c3 c4 c5 c6 hb5
          obtain ⟨⟨c0, c1, c2, c3, c4, c5, c6⟩, fz⟩ := cells7 hr5
          have z0 := fz 0
          have z1 := fz 1
          have z2 := fz 2
          have z3 := fz 3
          have z4 := fz 4
          have z5 := fz 5
          have z6 := fz 6
          have HR5 := Lib.hid hr5
          clear fz hr5
          go_wp2
          exact bodyPost_ret (results_ct rfl _ _ w.heap.size 23 #[.int .i64 r1, .int .i64 r2, .int .i64 r3, .int .i64 r4, .int .i64 r5, .int .i64 r6, .int .i64 r7] (0, 0) _ rfl (set7 HR5.out _ _ _ _ _ _ _).1 Tryd.underlying23 rfl (by kernel_rfl)) rfl ⟨rfl, (set7 HR5.out _ _ _ _ _ _ _).2 _ _ HBE5.out (Nat.le_refl _)⟩
        | true =>
          cases e with
          | false =>
            have HK : Hid (moment_read.f y mo dd hh mi se zz false = some (r1, r2, r3, r4, r5, r6, r7, r8)) := Lib.hid (by have h := HR.out; simpa using h)
            clear HR
            go_wp2_with fail
            refine (moment_read.calls y mo dd hh mi se zz false r1 r2 r3 r4 r5 r6 r7 r8 _ HK.out HLD4.out).mono ?_
            rintro e1 w5 ⟨rfl, hb5⟩
            have hr5 := (hb5.block w.heap.size (blk_lt HR4.out)).trans HR4.out
            have HBE5 := Lib.hid (below_step HBE4.out hb5)
            clear c0 c1 c2 c3 c4 c5 c6 hb5
            obtain ⟨⟨c0, c1, c2, c3, c4, c5, c6⟩, fz⟩ := cells7 hr5
            have z0 := fz 0
            have z1 := fz 1
            have z2 := fz 2
            have z3 := fz 3
            have z4 := fz 4
            have z5 := fz 5
            have z6 := fz 6
            have HR5 := Lib.hid hr5
            clear fz hr5
            go_wp2
            exact bodyPost_ret (results_ct rfl _ _ w.heap.size 23 #[.int .i64 r1, .int .i64 r2, .int .i64 r3, .int .i64 r4, .int .i64 r5, .int .i64 r6, .int .i64 r7] (0, 0) _ rfl (set7 HR5.out _ _ _ _ _ _ _).1 Tryd.underlying23 rfl (by kernel_rfl)) rfl ⟨rfl, (set7 HR5.out _ _ _ _ _ _ _).2 _ _ HBE5.out (Nat.le_refl _)⟩
          | true =>
            cases f with
            | false =>
              have HK : Hid (moment_read.f y mo dd hh mi se zz false = some (r1, r2, r3, r4, r5, r6, r7, r8)) := Lib.hid (by have h := HR.out; simpa using h)
              clear HR
              go_wp2_with fail
              refine (moment_read.calls y mo dd hh mi se zz false r1 r2 r3 r4 r5 r6 r7 r8 _ HK.out HLD4.out).mono ?_
              rintro e1 w5 ⟨rfl, hb5⟩
              have hr5 := (hb5.block w.heap.size (blk_lt HR4.out)).trans HR4.out
              have HBE5 := Lib.hid (below_step HBE4.out hb5)
              clear c0 c1 c2 c3 c4 c5 c6 hb5
              obtain ⟨⟨c0, c1, c2, c3, c4, c5, c6⟩, fz⟩ := cells7 hr5
              have z0 := fz 0
              have z1 := fz 1
              have z2 := fz 2
              have z3 := fz 3
              have z4 := fz 4
              have z5 := fz 5
              have z6 := fz 6
              have HR5 := Lib.hid hr5
              clear fz hr5
              go_wp2
              exact bodyPost_ret (results_ct rfl _ _ w.heap.size 23 #[.int .i64 r1, .int .i64 r2, .int .i64 r3, .int .i64 r4, .int .i64 r5, .int .i64 r6, .int .i64 r7] (0, 0) _ rfl (set7 HR5.out _ _ _ _ _ _ _).1 Tryd.underlying23 rfl (by kernel_rfl)) rfl ⟨rfl, (set7 HR5.out _ _ _ _ _ _ _).2 _ _ HBE5.out (Nat.le_refl _)⟩
            | true =>
              cases g with
              | false =>
                have HK : Hid (moment_read.f y mo dd hh mi se zz false = some (r1, r2, r3, r4, r5, r6, r7, r8)) := Lib.hid (by have h := HR.out; simpa using h)
                clear HR
                go_wp2_with fail
                refine (moment_read.calls y mo dd hh mi se zz false r1 r2 r3 r4 r5 r6 r7 r8 _ HK.out HLD4.out).mono ?_
                rintro e1 w5 ⟨rfl, hb5⟩
                have hr5 := (hb5.block w.heap.size (blk_lt HR4.out)).trans HR4.out
                have HBE5 := Lib.hid (below_step HBE4.out hb5)
                clear c0 c1 c2 c3 c4 c5 c6 hb5
                obtain ⟨⟨c0, c1, c2, c3, c4, c5, c6⟩, fz⟩ := cells7 hr5
                have z0 := fz 0
                have z1 := fz 1
                have z2 := fz 2
                have z3 := fz 3
                have z4 := fz 4
                have z5 := fz 5
                have z6 := fz 6
                have HR5 := Lib.hid hr5
                clear fz hr5
                go_wp2
                exact bodyPost_ret (results_ct rfl _ _ w.heap.size 23 #[.int .i64 r1, .int .i64 r2, .int .i64 r3, .int .i64 r4, .int .i64 r5, .int .i64 r6, .int .i64 r7] (0, 0) _ rfl (set7 HR5.out _ _ _ _ _ _ _).1 Tryd.underlying23 rfl (by kernel_rfl)) rfl ⟨rfl, (set7 HR5.out _ _ _ _ _ _ _).2 _ _ HBE5.out (Nat.le_refl _)⟩
              | true =>
                have HK : Hid (moment_read.f y mo dd hh mi se zz true = some (r1, r2, r3, r4, r5, r6, r7, r8)) := Lib.hid (by have h := HR.out; simpa using h)
                clear HR
                go_wp2_with fail
                refine (moment_read.calls y mo dd hh mi se zz true r1 r2 r3 r4 r5 r6 r7 r8 _ HK.out HLD4.out).mono ?_
                rintro e1 w5 ⟨rfl, hb5⟩
                have hr5 := (hb5.block w.heap.size (blk_lt HR4.out)).trans HR4.out
                have HBE5 := Lib.hid (below_step HBE4.out hb5)
                clear c0 c1 c2 c3 c4 c5 c6 hb5
                obtain ⟨⟨c0, c1, c2, c3, c4, c5, c6⟩, fz⟩ := cells7 hr5
                have z0 := fz 0
                have z1 := fz 1
                have z2 := fz 2
                have z3 := fz 3
                have z4 := fz 4
                have z5 := fz 5
                have z6 := fz 6
                have HR5 := Lib.hid hr5
                clear fz hr5
                go_wp2
                exact bodyPost_ret (results_ct rfl _ _ w.heap.size 23 #[.int .i64 r1, .int .i64 r2, .int .i64 r3, .int .i64 r4, .int .i64 r5, .int .i64 r6, .int .i64 r7] (0, 0) _ rfl (set7 HR5.out _ _ _ _ _ _ _).1 Tryd.underlying23 rfl (by kernel_rfl)) rfl ⟨rfl, (set7 HR5.out _ _ _ _ _ _ _).2 _ _ HBE5.out (Nat.le_refl _)⟩
theorem moment_ReadInternal.calls (a0 : ByteArray) (r1 r2 r3 r4 r5 r6 r7 r8 : Int) (w : World) (h : moment_ReadInternal.f a0 = some (r1, r2, r3, r4, r5, r6, r7, r8)) (hL : Laid w) :
    Calls Tryd.prog 32 #[.string a0] w fun e w' => e = .returned (.tuple #[.agg #[.int .i64 r1, .int .i64 r2, .int .i64 r3, .int .i64 r4, .int .i64 r5, .int .i64 r6, .int .i64 r7], .int .i64 r8]) ∧ Below w.heap.size w w' := by
  unfold moment_ReadInternal.f at h
  by_cases hf : formI a0
  · rw [if_pos hf] at h
    exact ri_yes a0 (dayT a0) (riD a0).1 (riY a0).1 (riY a0).2.1 (riY a0).2.2.1 (riH a0).1 (riM a0).1 (riS a0).1 (riZ a0).1 (riD a0).2 (riY a0).2.2.2 (riH a0).2 (riM a0).2 (riS a0).2 (riZ a0).2 r1 r2 r3 r4 r5 r6 r7 r8 w hf rfl (pair_eta _) (quad_eta _) (pair_eta _) (pair_eta _) (pair_eta _) (pair_eta _) h hL
  · rw [if_neg hf] at h
    have h := Option.some.inj h
    simp only [Prod.mk.injEq] at h
    obtain ⟨rfl, rfl, rfl, rfl, rfl, rfl, rfl, rfl⟩ := h
    exact ri_no a0 w hf hL
end Go.Proofs.YtjlchnmpebdggaaDoor.Mo
end
section
namespace Go.Proofs.YtjlchnmpebdggaaDoor.Mo
open Go.RowKit Go.Proofs.YtjlchnmpebdggaaDoorW.PrintWords
set_option linter.unusedVariables false
end Go.Proofs.YtjlchnmpebdggaaDoor.Mo
end
section
namespace Go.Proofs.YtjlchnmpebdggaaDoor.Mo
open Go.RowKit Go.Proofs.YtjlchnmpebdggaaDoorW.PrintWords
end Go.Proofs.YtjlchnmpebdggaaDoor.Mo
end
section
namespace Go.Proofs.YtjlchnmpebdggaaDoor.Mo
open Go.RowKit Go.Proofs.YtjlchnmpebdggaaDoorW.PrintWords
def isLet (c : UInt8) : Bool := decide (65 ≤ c.toNat) && decide (c.toNat ≤ 90) || decide (97 ≤ c.toNat) && decide (c.toNat ≤ 122)
def Cur (c t : Nat) (s : ByteArray) (i : Nat) (k : Int) (x : ByteArray) (w : World) : Prop := w.heap[c]? = some (.cells #[.string s, .int .i64 i, .int .i64 k, .string x] t (0, 0))
structure Turned (c : Nat) (w w' : World) : Prop where
  size : w.heap.size ≤ w'.heap.size
  other : ∀ i, i < w.heap.size → i ≠ c → w'.heap[i]? = w.heap[i]?
  below : ∀ (B : Nat) (w0 : World), Below B w0 w → B ≤ c → B ≤ w.heap.size → Below B w0 w'
theorem Turned.refl (c : Nat) (w : World) : Turned c w w := ⟨Nat.le_refl _, fun _ _ _ => rfl, fun _ _ h _ _ => h⟩
theorem Turned.trans {c : Nat} {w w1 w2 : World} (h : Turned c w w1) (k : Turned c w1 w2) : Turned c w w2 :=
  ⟨Nat.le_trans h.size k.size, fun i hi hn => (k.other i (Nat.lt_of_lt_of_le hi h.size) hn).trans (h.other i hi hn), fun B w0 hb hc hs => k.below B w0 (h.below B w0 hb hc hs) hc (Nat.le_trans hs h.size)⟩
theorem Turned.drewN {c : Nat} {w w1 : World} (h : Turned c w w1) (n : Nat) : Turned c w (w1.drewN n) := ⟨h.size, h.other, fun B w0 hb hc hs => pw_below_drewN (h.below B w0 hb hc hs) n⟩
theorem Turned.drew {c : Nat} {w w1 : World} (h : Turned c w w1) : Turned c w w1.drew := ⟨h.size, h.other, fun B w0 hb hc hs => below_drew (h.below B w0 hb hc hs)⟩
theorem Turned.set {c : Nat} {w w1 : World} (h : Turned c w w1) (j : Nat) (v : Value) : Turned c w (w1.setCell ⟨c, j, none⟩ v) :=
  ⟨by simpa [World.setCell] using h.size, fun i hi hn => (heap_setCell_other _ _ _ _ hn).trans (h.other i hi hn), fun B w0 hb hc hs => (h.below B w0 hb hc hs).setCell (p := ⟨c, j, none⟩) hc v⟩
theorem Turned.alloc {c : Nat} {w w1 : World} (h : Turned c w w1) (o : Obj) : Turned c w (w1.alloc o) :=
  ⟨by have := h.size; simp; omega, fun i hi hn => (Below.heap_alloc _ _ _ (Nat.lt_of_lt_of_le hi h.size)).trans (h.other i hi hn), fun B w0 hb hc hs => (h.below B w0 hb hc hs).alloc (Nat.le_trans hs h.size) o⟩
theorem Turned.made {c : Nat} {w w1 w2 : World} (h : Turned c w w1) (k : Below w1.heap.size w1 w2) : Turned c w w2 :=
  ⟨Nat.le_trans h.size k.size, fun i hi hn => (k.block i (Nat.lt_of_lt_of_le hi h.size)).trans (h.other i hi hn), fun B w0 hb hc hs => (h.below B w0 hb hc hs).trans (k.mono (Nat.le_trans hs h.size))⟩
def runP (p : UInt8 → Bool) (l : List UInt8) (i : Nat) : Nat := i + ((l.drop i).takeWhile p).length
theorem runP_le (p : UInt8 → Bool) (l : List UInt8) (i : Nat) (h : i ≤ l.length) : runP p l i ≤ l.length ∧ i ≤ runP p l i := by
  unfold runP
  have := (List.takeWhile_prefix (l := l.drop i) p).length_le
  rw [List.length_drop] at this
  omega
theorem runP_end (p : UInt8 → Bool) (l : List UInt8) (i : Nat) (h : l.length ≤ i) : runP p l i = i := by
  unfold runP; rw [List.drop_of_length_le h]; rfl
theorem runP_yes (p : UInt8 → Bool) (l : List UInt8) (i : Nat) (h : i < l.length) (hp : p l[i] = true) : runP p l i = runP p l (i + 1) := by
  unfold runP; rw [List.drop_eq_getElem_cons h, List.takeWhile_cons, if_pos hp, List.length_cons]; omega
theorem runP_no (p : UInt8 → Bool) (l : List UInt8) (i : Nat) (h : i < l.length) (hp : p l[i] = false) : runP p l i = i := by
  unfold runP; rw [List.drop_eq_getElem_cons h, List.takeWhile_cons, if_neg (by simp [hp])]; rfl
structure Asks (fn : Nat) (p : UInt8 → Bool) : Prop where
  entry : ∀ (args : Array Value) (w : World), Sem.run Tryd.prog (callFunc fn args) w = .ok (.enter fn args) w
  tells : ∀ (b : UInt8) (w : World), Calls Tryd.prog fn #[.int .u8 b.toNat] w fun e w' => e = .returned (.bool (p b)) ∧ Drawn0 w w'
theorem cast_le (m : Nat) (b : UInt8) : ((b.toNat : Int) ≥ (m : Int)) = (m ≤ b.toNat) := propext ⟨fun h => by omega, fun h => by omega⟩
theorem cast_le2 (m : Nat) (b : UInt8) : decide ((b.toNat : Int) ≤ (m : Int)) = decide (b.toNat ≤ m) := decide_eq_decide.2 ⟨fun h => by omega, fun h => by omega⟩
theorem cast_le3 (m : Nat) (b : UInt8) : ((b.toNat : Int) ≤ (m : Int)) = (b.toNat ≤ m) := propext ⟨fun h => by omega, fun h => by omega⟩
theorem asks_letter : Asks 89 isLet where
  entry := fun args w => by kernel_rfl
  tells := fun b w => moment_isLetter.calls _ _ w (by
    unfold moment_isLetter.f isLet
    have e1 : ((b.toNat : Int) ≥ 65) = (65 ≤ b.toNat) := cast_le 65 b
    have e2 : ((b.toNat : Int) ≥ 97) = (97 ≤ b.toNat) := cast_le 97 b
    have e3 : decide ((b.toNat : Int) ≤ 122) = decide (b.toNat ≤ 122) := cast_le2 122 b
    have e4 : ((b.toNat : Int) ≤ 90) = (b.toNat ≤ 90) := cast_le3 90 b
    simp only [e1, e2, e3, e4]
    by_cases h1 : 65 ≤ b.toNat <;> by_cases h2 : b.toNat ≤ 90 <;> by_cases h3 : 97 ≤ b.toNat <;> simp [h1, h2, h3])
theorem asks_digit : Asks 91 isDig where
  entry := fun args w => by kernel_rfl
  tells := fun b w => moment_isDigit.calls _ _ w (by
    unfold moment_isDigit.f isDig
    have e1 : ((b.toNat : Int) ≥ 48) = (48 ≤ b.toNat) := cast_le 48 b
    have e3 : decide ((b.toNat : Int) ≤ 57) = decide (b.toNat ≤ 57) := cast_le2 57 b
    simp only [e1, e3]
    by_cases h1 : 48 ≤ b.toNat <;> simp [h1])
set_option maxHeartbeats 1000000 in
theorem run_calls (fn : Nat) (p : UInt8 → Bool) (hA : Asks fn p) (c t : Nat) (s : ByteArray) (i : Nat) (k : Int) (x : ByteArray) (w : World) (hs : s.size ≤ 140737488351232) (hi : i ≤ s.size) (hc : Cur c t s i k x w) :
    Calls Tryd.prog 90 #[.pointer (some ⟨c, 0, none⟩), .func (.func fn) #[] #[]] w fun e w' => e = .returned (.tuple #[]) ∧ Cur c t s (runP p s.data.toList i) k x w' ∧ Turned c w w' := by
  have HC := Lib.hid hc
  clear hc
  have hl := toList_len s
  go_enter Tryd.func90, Tryd.ntmps90
  go_wp2_with fail
  go_loopg [] (s.size - i) (fun n wr => ∃ j, n = s.size - j ∧ j ≤ s.size ∧ Cur c t s j k x wr ∧ runP p s.data.toList j = runP p s.data.toList i ∧ Turned c w wr)
  case atStart => exact ⟨i, rfl, hi, HC.out, rfl, Turned.refl _ _⟩
  case round =>
    obtain ⟨j, hn, hj, hcur, hr, hT⟩ := hrel
    have hcell : wr.heap[c]? = some (.cells #[.string s, .int .i64 j, .int .i64 k, .string x] t (0, 0)) := hcur
    have c0 : wr.cell? ⟨c, 0, none⟩ = some (.string s) := cell_of_row wr c 0 _ _ _ hcell
    have c1 : wr.cell? ⟨c, 1, none⟩ = some (.int .i64 (j : Nat)) := cell_of_row wr c 1 _ _ _ hcell
    have z1 : wr.frozen? ⟨c, 1, none⟩ = false := frozen_of_row wr c 1 _ _ hcell
    have HCUR := Lib.hid hcell
    have HR := Lib.hid hr
    have HN := Lib.hid hn
    have HT := Lib.hid hT
    clear hcell hcur hr hn hT
    by_cases hlt : j < s.size
    · have hlen : j < s.data.toList.length := by omega
      have hent := hA.entry
      have hbj : s[j]'hlt = s.data.toList[j]'hlen := rfl
      have hx0 : (0 : Int) ≤ (j : Int) := by omega
      have hx1 : (j : Int) < (s.size : Int) := by omega
      have htell := hA.tells (s.data.toList[j]'hlen)
      rw [← hbj] at htell
      cases hp : p (s.data.toList[j]'hlen) with
      | true =>
        rw [hbj, hp, ← hbj] at htell
        have HTELL := Lib.hid htell
        have HP := Lib.hid hp
        clear hp htell hbj
        go_wp2_with fail
        go_quiet (exact Calls.quiet_of ((HTELL.out _).mono (fun e w' h => ⟨h.1, h.2.out⟩)))
        go_wp2
        go_roundg (s.size - (j + 1))
        case measure => have := HN.out; omega
        case rel => exact ⟨j + 1, rfl, by omega, by
            have h := blk_put (cs' := #[.string s, .int .i64 ((j : Int) + 1), .int .i64 k, .string x]) (blk_drewN HCUR.out nq) 1 (.int .i64 ((j : Int) + 1)) rfl
            exact h, by rw [← HR.out, runP_yes _ _ _ hlen HP.out], (HT.out.drewN nq).set 1 _⟩
      | false =>
        rw [hbj, hp, ← hbj] at htell
        have HTELL := Lib.hid htell
        have HP := Lib.hid hp
        clear hp htell hbj
        go_wp2_with fail
        go_quiet (exact Calls.quiet_of ((HTELL.out _).mono (fun e w' h => ⟨h.1, h.2.out⟩)))
        go_wp2
        go_end0
        refine ⟨rfl, ?_, HT.out.drewN nq⟩
        rw [← HR.out, runP_no _ _ _ hlen HP.out]
        exact HCUR.out
    · have hlt' : s.size ≤ j := by omega
      have hg : decide ((j : Int) < (s.size : Int)) = false := decide_eq_false (by omega)
      have hg2 : decide (j < s.size) = false := decide_eq_false (by omega)
      go_wp2_with fail
      go_quiet (fail)
      go_wp2
      go_end0
      refine ⟨rfl, ?_, HT.out.drewN nq⟩
      rw [← HR.out, runP_end _ _ _ (by omega)]
      exact HCUR.out
end Go.Proofs.YtjlchnmpebdggaaDoor.Mo
end
section
namespace Go.Proofs.YtjlchnmpebdggaaDoor.Mo
open Go.RowKit Go.Proofs.YtjlchnmpebdggaaDoorW.PrintWords Go.Proofs.YtjlchnmpebdggaaDoorW.PrintLast Go.Proofs.YtjlchnmpebdggaaDoorW.PrintMore
attribute [local go_sem] max2_int min2_int max_two min_two
def isBlank (c : UInt8) : Bool := c.toNat == 32 || (c.toNat == 9 || (c.toNat == 13 || c.toNat == 10))
def blanksL : List UInt8 → Nat → Nat
  | [], _ => 0
  | c :: r, d =>
    if c.toNat = 40 then 1 + blanksL r (d + 1)
    else if 0 < d ∧ c.toNat = 41 then 1 + blanksL r (d - 1)
    else if 0 < d ∧ c.toNat = 92 then 1 + (match r with | [] => 0 | _ :: r' => 1 + blanksL r' d)
    else if 0 < d ∨ isBlank c = true then 1 + blanksL r d
    else 0
def blankP (l : List UInt8) (i : Nat) : Nat := i + blanksL (l.drop i) 0
def BlAt (l : List UInt8) (T j d : Nat) : Prop := d ≤ j ∧ (j ≤ l.length ∧ j + blanksL (l.drop j) d = T ∨ j = l.length + 1 ∧ T = l.length)
theorem bl_open {l : List UInt8} {T j d : Nat} (h : BlAt l T j d) (hj : j < l.length) : BlAt l T (j + 1) (d + 1) ∧ l[j].toNat = 40 ∨ BlAt l T (j + 1) (d - 1) ∧ 0 < d ∧ l[j].toNat = 41 ∨ BlAt l T (j + 2) d ∧ 0 < d ∧ l[j].toNat = 92 ∨
    BlAt l T (j + 1) d ∧ (0 < d ∧ l[j].toNat ≠ 40 ∧ l[j].toNat ≠ 41 ∧ l[j].toNat ≠ 92 ∨ d = 0 ∧ l[j].toNat ≠ 40 ∧ isBlank l[j] = true) ∨ T = j ∧ d = 0 ∧ l[j].toNat ≠ 40 ∧ isBlank l[j] = false := by
  obtain ⟨h0, ⟨_, h2⟩ | ⟨h1, _⟩⟩ := h
  · rw [List.drop_eq_getElem_cons hj] at h2
    generalize l[j] = c at *
    unfold blanksL at h2
    by_cases c1 : c.toNat = 40
    · rw [if_pos c1] at h2
      exact .inl ⟨⟨by omega, .inl ⟨by omega, by omega⟩⟩, c1⟩
    · rw [if_neg c1] at h2
      by_cases c2 : 0 < d ∧ c.toNat = 41
      · rw [if_pos c2] at h2
        exact .inr (.inl ⟨⟨by omega, .inl ⟨by omega, by omega⟩⟩, c2.1, c2.2⟩)
      · rw [if_neg c2] at h2
        by_cases c3 : 0 < d ∧ c.toNat = 92
        · rw [if_pos c3] at h2
          refine .inr (.inr (.inl ⟨⟨by omega, ?_⟩, c3.1, c3.2⟩))
          by_cases hk : j + 1 < l.length
          · rw [List.drop_eq_getElem_cons hk] at h2
            exact .inl ⟨by omega, by rw [show j + 1 + 1 = j + 2 from rfl] at h2; simp only at h2; omega⟩
          · rw [List.drop_of_length_le (by omega)] at h2
            exact .inr ⟨by omega, by simp only at h2; omega⟩
        · rw [if_neg c3] at h2
          by_cases c4 : 0 < d ∨ isBlank c = true
          · rw [if_pos c4] at h2
            refine .inr (.inr (.inr (.inl ⟨⟨by omega, .inl ⟨by omega, by omega⟩⟩, ?_⟩)))
            by_cases hd : 0 < d
            · exact .inl ⟨hd, c1, fun h => c2 ⟨hd, h⟩, fun h => c3 ⟨hd, h⟩⟩
            · exact .inr ⟨by omega, c1, c4.resolve_left hd⟩
          · rw [if_neg c4] at h2
            exact .inr (.inr (.inr (.inr ⟨by omega, by omega, c1, Bool.eq_false_iff.2 (fun h => c4 (.inr h))⟩)))
  · omega
theorem bl_done {l : List UInt8} {T j d : Nat} (h : BlAt l T j d) (hj : l.length ≤ j) : T = l.length := by
  obtain ⟨h0, ⟨h1, h2⟩ | ⟨h1, h2⟩⟩ := h
  · rw [List.drop_of_length_le hj] at h2
    have : blanksL [] d = 0 := by unfold blanksL; rfl
    omega
  · exact h2
theorem bl_le {l : List UInt8} {T j d : Nat} (h : BlAt l T j d) : j ≤ l.length + 1 := by
  obtain ⟨h0, ⟨h1, h2⟩ | ⟨h1, h2⟩⟩ := h <;> omega
set_option maxHeartbeats 1000000 in
set_option maxRecDepth 100000 in
theorem blanks_calls (c t : Nat) (s : ByteArray) (i : Nat) (k : Int) (x : ByteArray) (w : World) (hs : s.size ≤ 140737488351232) (hi : i ≤ s.size) (hc : Cur c t s i k x w) :
    Calls Tryd.prog 88 #[.pointer (some ⟨c, 0, none⟩)] w fun e w' => e = .returned (.tuple #[]) ∧ Cur c t s (blankP s.data.toList i) k x w' ∧ Turned c w w' := by
  have HC := Lib.hid hc
  clear hc
  have hl := toList_len s
  have hT0 : BlAt s.data.toList (blankP s.data.toList i) i 0 := ⟨by omega, .inl ⟨by omega, rfl⟩⟩
  have HT0 := Lib.hid hT0
  clear hT0
  generalize blankP s.data.toList i = T at *
  go_enter Tryd.func88, Tryd.ntmps88
  go_wp2_with fail
  go_step3
  go_wp2_with fail
  go_step3
  go_wp2_with fail
  go_loopg [2] (s.size + 2 - i) (fun n v2 wr => ∃ j d, n = s.size + 2 - j ∧ v2 = .int .i64 (d : Nat) ∧ BlAt s.data.toList T j d ∧ Cur c t s j k x wr ∧ Turned c w wr)
  case atStart => exact ⟨i, 0, rfl, rfl, HT0.out, HC.out, Turned.refl _ _⟩
  case round =>
    obtain ⟨j, d, hn, rfl, hB, hcur, hT⟩ := hrel
    have hcell : wr.heap[c]? = some (.cells #[.string s, .int .i64 j, .int .i64 k, .string x] t (0, 0)) := hcur
    have c0 : wr.cell? ⟨c, 0, none⟩ = some (.string s) := cell_of_row wr c 0 _ _ _ hcell
    have c1 : wr.cell? ⟨c, 1, none⟩ = some (.int .i64 (j : Nat)) := cell_of_row wr c 1 _ _ _ hcell
    have z1 : wr.frozen? ⟨c, 1, none⟩ = false := frozen_of_row wr c 1 _ _ hcell
    have HCUR := Lib.hid hcell
    have HN := Lib.hid hn
    have HT := Lib.hid hT
    have hjl := bl_le hB
    have hdj := hB.1
    have HB := Lib.hid hB
    clear hcell hcur hn hT hB
    by_cases hlt : j < s.size
    · have hlen : j < s.data.toList.length := by omega
      have hx0 : (0 : Int) ≤ (j : Int) := by omega
      have hx1 : (j : Int) < (s.size : Int) := by omega
      have hO := Lib.hid (bl_open HB.out hlen)
      have hbj : s[j]'hlt = s.data.toList[j]'hlen := rfl
      rw [← hbj] at hO
      obtain ⟨b, hb⟩ : ∃ b, s[j]'hlt = b := ⟨_, rfl⟩
      rw [hb] at hO
      clear hbj
      have h8 := b.toNat_lt
      rcases hO.out with ⟨h1, h2⟩ | ⟨h1, h2, h3⟩ | ⟨h1, h2, h3⟩ | ⟨h1, ⟨h2, h3, h4, h5⟩ | ⟨h2, h3, h4⟩⟩ | ⟨h1, h2, h3, h4⟩
      · have HB2 := Lib.hid h1
        clear h1 hO HB
        have g40 : ((b.toNat : Int) == 40) = true := by rw [beq_iff_eq]; omega
        go_wp2_with fail
        go_quiet (fail)
        have HK := Lib.hid (blk_drewN HCUR.out nq)
        have HTK := Lib.hid (HT.out.drewN nq)
        clear c0 c1 z1 HCUR HT
        generalize wr.drewN nq = wr at *
        have c0 : wr.cell? ⟨c, 0, none⟩ = some (.string s) := cell_of_row wr c 0 _ _ _ HK.out
        have c1 : wr.cell? ⟨c, 1, none⟩ = some (.int .i64 (j : Nat)) := cell_of_row wr c 1 _ _ _ HK.out
        have z1 : wr.frozen? ⟨c, 1, none⟩ = false := frozen_of_row wr c 1 _ _ HK.out
        have HCUR := Lib.hid HK.out
        have HT := Lib.hid HTK.out
        clear HK HTK
        go_wp2_with fail
        go_quiet (fail)
        have HK := Lib.hid (blk_drewN HCUR.out nq)
        have HTK := Lib.hid (HT.out.drewN nq)
        clear c0 c1 z1 HCUR HT
        generalize wr.drewN nq = wr at *
        have c0 : wr.cell? ⟨c, 0, none⟩ = some (.string s) := cell_of_row wr c 0 _ _ _ HK.out
        have c1 : wr.cell? ⟨c, 1, none⟩ = some (.int .i64 (j : Nat)) := cell_of_row wr c 1 _ _ _ HK.out
        have z1 : wr.frozen? ⟨c, 1, none⟩ = false := frozen_of_row wr c 1 _ _ HK.out
        have HCUR := Lib.hid HK.out
        have HT := Lib.hid HTK.out
        clear HK HTK
        go_wp2
        go_roundg (s.size + 2 - (j + 1))
        case measure => have := HN.out; omega
        case rel =>
          have h := blk_put (cs' := #[.string s, .int .i64 ((j : Int) + 1), .int .i64 k, .string x]) HCUR.out 1 (.int .i64 ((j : Int) + 1)) rfl
          exact ⟨j + 1, d + 1, rfl, by go_num, HB2.out, h, HT.out.set 1 _⟩
      · have HB2 := Lib.hid h1
        clear h1 hO HB
        have g40 : ((b.toNat : Int) == 40) = false := by rw [beq_eq_false_iff_ne]; omega
        have g41 : ((b.toNat : Int) == 41) = true := by rw [beq_iff_eq]; omega
        have gd : decide ((0 : Int) < (d : Int)) = true := decide_eq_true (by omega)
        have gd2 : decide (0 < d) = true := decide_eq_true (by omega)
        go_wp2_with fail
        go_quiet (fail)
        have HK := Lib.hid (blk_drewN HCUR.out nq)
        have HTK := Lib.hid (HT.out.drewN nq)
        clear c0 c1 z1 HCUR HT
        generalize wr.drewN nq = wr at *
        have c0 : wr.cell? ⟨c, 0, none⟩ = some (.string s) := cell_of_row wr c 0 _ _ _ HK.out
        have c1 : wr.cell? ⟨c, 1, none⟩ = some (.int .i64 (j : Nat)) := cell_of_row wr c 1 _ _ _ HK.out
        have z1 : wr.frozen? ⟨c, 1, none⟩ = false := frozen_of_row wr c 1 _ _ HK.out
        have HCUR := Lib.hid HK.out
        have HT := Lib.hid HTK.out
        clear HK HTK
        go_wp2_with fail
        go_quiet (fail)
        have HK := Lib.hid (blk_drewN HCUR.out nq)
        have HTK := Lib.hid (HT.out.drewN nq)
        clear c0 c1 z1 HCUR HT
        generalize wr.drewN nq = wr at *
        have c0 : wr.cell? ⟨c, 0, none⟩ = some (.string s) := cell_of_row wr c 0 _ _ _ HK.out
        have c1 : wr.cell? ⟨c, 1, none⟩ = some (.int .i64 (j : Nat)) := cell_of_row wr c 1 _ _ _ HK.out
        have z1 : wr.frozen? ⟨c, 1, none⟩ = false := frozen_of_row wr c 1 _ _ HK.out
        have HCUR := Lib.hid HK.out
        have HT := Lib.hid HTK.out
        clear HK HTK
        go_wp2
        go_roundg (s.size + 2 - (j + 1))
        case measure => have := HN.out; omega
        case rel =>
          have h := blk_put (cs' := #[.string s, .int .i64 ((j : Int) + 1), .int .i64 k, .string x]) HCUR.out 1 (.int .i64 ((j : Int) + 1)) rfl
          exact ⟨j + 1, d - 1, rfl, by rw [show ((d - 1 : Nat) : Int) = (d : Int) - 1 from by omega], HB2.out, h, HT.out.set 1 _⟩
      · have HB2 := Lib.hid h1
        clear h1 hO HB
        have g40 : ((b.toNat : Int) == 40) = false := by rw [beq_eq_false_iff_ne]; omega
        have g41 : ((b.toNat : Int) == 41) = false := by rw [beq_eq_false_iff_ne]; omega
        have g92 : ((b.toNat : Int) == 92) = true := by rw [beq_iff_eq]; omega
        have gd : decide ((0 : Int) < (d : Int)) = true := decide_eq_true (by omega)
        have gd2 : decide (0 < d) = true := decide_eq_true (by omega)
        go_wp2_with fail
        go_quiet (fail)
        have HK := Lib.hid (blk_drewN HCUR.out nq)
        have HTK := Lib.hid (HT.out.drewN nq)
        clear c0 c1 z1 HCUR HT
        generalize wr.drewN nq = wr at *
        have c0 : wr.cell? ⟨c, 0, none⟩ = some (.string s) := cell_of_row wr c 0 _ _ _ HK.out
        have c1 : wr.cell? ⟨c, 1, none⟩ = some (.int .i64 (j : Nat)) := cell_of_row wr c 1 _ _ _ HK.out
        have z1 : wr.frozen? ⟨c, 1, none⟩ = false := frozen_of_row wr c 1 _ _ HK.out
        have HCUR := Lib.hid HK.out
        have HT := Lib.hid HTK.out
        clear HK HTK
        go_wp2_with fail
        go_quiet (fail)
        have HK := Lib.hid (blk_drewN HCUR.out nq)
        have HTK := Lib.hid (HT.out.drewN nq)
        clear c0 c1 z1 HCUR HT
        generalize wr.drewN nq = wr at *
        have c0 : wr.cell? ⟨c, 0, none⟩ = some (.string s) := cell_of_row wr c 0 _ _ _ HK.out
        have c1 : wr.cell? ⟨c, 1, none⟩ = some (.int .i64 (j : Nat)) := cell_of_row wr c 1 _ _ _ HK.out
        have z1 : wr.frozen? ⟨c, 1, none⟩ = false := frozen_of_row wr c 1 _ _ HK.out
        have HCUR := Lib.hid HK.out
        have HT := Lib.hid HTK.out
        clear HK HTK
        go_wp2
        go_roundg (s.size + 2 - (j + 2))
        case measure => have := HN.out; omega
        case rel =>
          have h := blk_put (cs' := #[.string s, .int .i64 ((j : Int) + 1), .int .i64 k, .string x]) HCUR.out 1 (.int .i64 ((j : Int) + 1)) rfl
          replace h := blk_put (cs' := #[.string s, .int .i64 ((j : Int) + 1 + 1), .int .i64 k, .string x]) h 1 (.int .i64 ((j : Int) + 1 + 1)) rfl
          exact ⟨j + 2, d, rfl, rfl, HB2.out, h, (HT.out.set 1 _).set 1 _⟩
      · have HB2 := Lib.hid h1
        clear h1 hO HB
        have g40 : ((b.toNat : Int) == 40) = false := by rw [beq_eq_false_iff_ne]; omega
        have g41 : ((b.toNat : Int) == 41) = false := by rw [beq_eq_false_iff_ne]; omega
        have g92 : ((b.toNat : Int) == 92) = false := by rw [beq_eq_false_iff_ne]; omega
        have gd : decide ((0 : Int) < (d : Int)) = true := decide_eq_true (by omega)
        have gd2 : decide (0 < d) = true := decide_eq_true (by omega)
        go_wp2_with fail
        go_quiet (fail)
        have HK := Lib.hid (blk_drewN HCUR.out nq)
        have HTK := Lib.hid (HT.out.drewN nq)
        clear c0 c1 z1 HCUR HT
        generalize wr.drewN nq = wr at *
        have c0 : wr.cell? ⟨c, 0, none⟩ = some (.string s) := cell_of_row wr c 0 _ _ _ HK.out
        have c1 : wr.cell? ⟨c, 1, none⟩ = some (.int .i64 (j : Nat)) := cell_of_row wr c 1 _ _ _ HK.out
        have z1 : wr.frozen? ⟨c, 1, none⟩ = false := frozen_of_row wr c 1 _ _ HK.out
        have HCUR := Lib.hid HK.out
        have HT := Lib.hid HTK.out
        clear HK HTK
        go_wp2_with fail
        go_quiet (fail)
        have HK := Lib.hid (blk_drewN HCUR.out nq)
        have HTK := Lib.hid (HT.out.drewN nq)
        clear c0 c1 z1 HCUR HT
        generalize wr.drewN nq = wr at *
        have c0 : wr.cell? ⟨c, 0, none⟩ = some (.string s) := cell_of_row wr c 0 _ _ _ HK.out
        have c1 : wr.cell? ⟨c, 1, none⟩ = some (.int .i64 (j : Nat)) := cell_of_row wr c 1 _ _ _ HK.out
        have z1 : wr.frozen? ⟨c, 1, none⟩ = false := frozen_of_row wr c 1 _ _ HK.out
        have HCUR := Lib.hid HK.out
        have HT := Lib.hid HTK.out
        clear HK HTK
        go_wp2
        go_roundg (s.size + 2 - (j + 1))
        case measure => have := HN.out; omega
        case rel =>
          have h := blk_put (cs' := #[.string s, .int .i64 ((j : Int) + 1), .int .i64 k, .string x]) HCUR.out 1 (.int .i64 ((j : Int) + 1)) rfl
          exact ⟨j + 1, d, rfl, rfl, HB2.out, h, HT.out.set 1 _⟩
      · have HB2 := Lib.hid h1
        subst h2
        have h5 : b.toNat = 32 ∨ b.toNat ≠ 32 ∧ b.toNat = 9 ∨ b.toNat ≠ 32 ∧ b.toNat ≠ 9 ∧ b.toNat = 13 ∨ b.toNat ≠ 32 ∧ b.toNat ≠ 9 ∧ b.toNat ≠ 13 ∧ b.toNat = 10 := by
          simp only [isBlank, Bool.or_eq_true, beq_iff_eq] at h4
          omega
        clear h1 hO HB h4
        have gd : decide ((0 : Int) < ((0 : Nat) : Int)) = false := rfl
        have g40 : ((b.toNat : Int) == 40) = false := by rw [beq_eq_false_iff_ne]; omega
        rcases h5 with h5 | ⟨h5, h6⟩ | ⟨h5, h6, h7⟩ | ⟨h5, h6, h7, h9⟩
        · have e32 : ((b.toNat : Int) == 32) = true := by rw [beq_iff_eq]; omega
          go_wp2_with fail
          go_quiet (fail)
          have HK := Lib.hid (blk_drewN HCUR.out nq)
          have HTK := Lib.hid (HT.out.drewN nq)
          clear c0 c1 z1 HCUR HT
          generalize wr.drewN nq = wr at *
          have c0 : wr.cell? ⟨c, 0, none⟩ = some (.string s) := cell_of_row wr c 0 _ _ _ HK.out
          have c1 : wr.cell? ⟨c, 1, none⟩ = some (.int .i64 (j : Nat)) := cell_of_row wr c 1 _ _ _ HK.out
          have z1 : wr.frozen? ⟨c, 1, none⟩ = false := frozen_of_row wr c 1 _ _ HK.out
          have HCUR := Lib.hid HK.out
          have HT := Lib.hid HTK.out
          clear HK HTK
          go_wp2_with fail
          go_quiet (fail)
          have HK := Lib.hid (blk_drewN HCUR.out nq)
          have HTK := Lib.hid (HT.out.drewN nq)
          clear c0 c1 z1 HCUR HT
          generalize wr.drewN nq = wr at *
          have c0 : wr.cell? ⟨c, 0, none⟩ = some (.string s) := cell_of_row wr c 0 _ _ _ HK.out
          have c1 : wr.cell? ⟨c, 1, none⟩ = some (.int .i64 (j : Nat)) := cell_of_row wr c 1 _ _ _ HK.out
          have z1 : wr.frozen? ⟨c, 1, none⟩ = false := frozen_of_row wr c 1 _ _ HK.out
          have HCUR := Lib.hid HK.out
          have HT := Lib.hid HTK.out
          clear HK HTK
          go_wp2
          go_roundg (s.size + 2 - (j + 1))
          case measure => have := HN.out; omega
          case rel =>
            have h := blk_put (cs' := #[.string s, .int .i64 ((j : Int) + 1), .int .i64 k, .string x]) HCUR.out 1 (.int .i64 ((j : Int) + 1)) rfl
            exact ⟨j + 1, 0, rfl, rfl, HB2.out, h, HT.out.set 1 _⟩
        · have e32 : ((b.toNat : Int) == 32) = false := by rw [beq_eq_false_iff_ne]; omega
          have e9 : ((b.toNat : Int) == 9) = true := by rw [beq_iff_eq]; omega
          go_wp2_with fail
          go_quiet (fail)
          have HK := Lib.hid (blk_drewN HCUR.out nq)
          have HTK := Lib.hid (HT.out.drewN nq)
          clear c0 c1 z1 HCUR HT
          generalize wr.drewN nq = wr at *
          have c0 : wr.cell? ⟨c, 0, none⟩ = some (.string s) := cell_of_row wr c 0 _ _ _ HK.out
          have c1 : wr.cell? ⟨c, 1, none⟩ = some (.int .i64 (j : Nat)) := cell_of_row wr c 1 _ _ _ HK.out
          have z1 : wr.frozen? ⟨c, 1, none⟩ = false := frozen_of_row wr c 1 _ _ HK.out
          have HCUR := Lib.hid HK.out
          have HT := Lib.hid HTK.out
          clear HK HTK
          go_wp2_with fail
          go_quiet (fail)
          have HK := Lib.hid (blk_drewN HCUR.out nq)
          have HTK := Lib.hid (HT.out.drewN nq)
          clear c0 c1 z1 HCUR HT
          generalize wr.drewN nq = wr at *
          have c0 : wr.cell? ⟨c, 0, none⟩ = some (.string s) := cell_of_row wr c 0 _ _ _ HK.out
          have c1 : wr.cell? ⟨c, 1, none⟩ = some (.int .i64 (j : Nat)) := cell_of_row wr c 1 _ _ _ HK.out
          have z1 : wr.frozen? ⟨c, 1, none⟩ = false := frozen_of_row wr c 1 _ _ HK.out
          have HCUR := Lib.hid HK.out
          have HT := Lib.hid HTK.out
          clear HK HTK
          go_wp2
          go_roundg (s.size + 2 - (j + 1))
          case measure => have := HN.out; omega
          case rel =>
            have h := blk_put (cs' := #[.string s, .int .i64 ((j : Int) + 1), .int .i64 k, .string x]) HCUR.out 1 (.int .i64 ((j : Int) + 1)) rfl
            exact ⟨j + 1, 0, rfl, rfl, HB2.out, h, HT.out.set 1 _⟩
        · have e32 : ((b.toNat : Int) == 32) = false := by rw [beq_eq_false_iff_ne]; omega
          have e9 : ((b.toNat : Int) == 9) = false := by rw [beq_eq_false_iff_ne]; omega
          have e13 : ((b.toNat : Int) == 13) = true := by rw [beq_iff_eq]; omega
          go_wp2_with fail
          go_quiet (fail)
          have HK := Lib.hid (blk_drewN HCUR.out nq)
          have HTK := Lib.hid (HT.out.drewN nq)
          clear c0 c1 z1 HCUR HT
          generalize wr.drewN nq = wr at *
          have c0 : wr.cell? ⟨c, 0, none⟩ = some (.string s) := cell_of_row wr c 0 _ _ _ HK.out
          have c1 : wr.cell? ⟨c, 1, none⟩ = some (.int .i64 (j : Nat)) := cell_of_row wr c 1 _ _ _ HK.out
          have z1 : wr.frozen? ⟨c, 1, none⟩ = false := frozen_of_row wr c 1 _ _ HK.out
          have HCUR := Lib.hid HK.out
          have HT := Lib.hid HTK.out
          clear HK HTK
          go_wp2_with fail
          go_quiet (fail)
          have HK := Lib.hid (blk_drewN HCUR.out nq)
          have HTK := Lib.hid (HT.out.drewN nq)
          clear c0 c1 z1 HCUR HT
          generalize wr.drewN nq = wr at *
          have c0 : wr.cell? ⟨c, 0, none⟩ = some (.string s) := cell_of_row wr c 0 _ _ _ HK.out
          have c1 : wr.cell? ⟨c, 1, none⟩ = some (.int .i64 (j : Nat)) := cell_of_row wr c 1 _ _ _ HK.out
          have z1 : wr.frozen? ⟨c, 1, none⟩ = false := frozen_of_row wr c 1 _ _ HK.out
          have HCUR := Lib.hid HK.out
          have HT := Lib.hid HTK.out
          clear HK HTK
          go_wp2
          go_roundg (s.size + 2 - (j + 1))
          case measure => have := HN.out; omega
          case rel =>
            have h := blk_put (cs' := #[.string s, .int .i64 ((j : Int) + 1), .int .i64 k, .string x]) HCUR.out 1 (.int .i64 ((j : Int) + 1)) rfl
            exact ⟨j + 1, 0, rfl, rfl, HB2.out, h, HT.out.set 1 _⟩
        · have e32 : ((b.toNat : Int) == 32) = false := by rw [beq_eq_false_iff_ne]; omega
          have e9 : ((b.toNat : Int) == 9) = false := by rw [beq_eq_false_iff_ne]; omega
          have e13 : ((b.toNat : Int) == 13) = false := by rw [beq_eq_false_iff_ne]; omega
          have e10 : ((b.toNat : Int) == 10) = true := by rw [beq_iff_eq]; omega
          go_wp2_with fail
          go_quiet (fail)
          have HK := Lib.hid (blk_drewN HCUR.out nq)
          have HTK := Lib.hid (HT.out.drewN nq)
          clear c0 c1 z1 HCUR HT
          generalize wr.drewN nq = wr at *
          have c0 : wr.cell? ⟨c, 0, none⟩ = some (.string s) := cell_of_row wr c 0 _ _ _ HK.out
          have c1 : wr.cell? ⟨c, 1, none⟩ = some (.int .i64 (j : Nat)) := cell_of_row wr c 1 _ _ _ HK.out
          have z1 : wr.frozen? ⟨c, 1, none⟩ = false := frozen_of_row wr c 1 _ _ HK.out
          have HCUR := Lib.hid HK.out
          have HT := Lib.hid HTK.out
          clear HK HTK
          go_wp2_with fail
          go_quiet (fail)
          have HK := Lib.hid (blk_drewN HCUR.out nq)
          have HTK := Lib.hid (HT.out.drewN nq)
          clear c0 c1 z1 HCUR HT
          generalize wr.drewN nq = wr at *
          have c0 : wr.cell? ⟨c, 0, none⟩ = some (.string s) := cell_of_row wr c 0 _ _ _ HK.out
          have c1 : wr.cell? ⟨c, 1, none⟩ = some (.int .i64 (j : Nat)) := cell_of_row wr c 1 _ _ _ HK.out
          have z1 : wr.frozen? ⟨c, 1, none⟩ = false := frozen_of_row wr c 1 _ _ HK.out
          have HCUR := Lib.hid HK.out
          have HT := Lib.hid HTK.out
          clear HK HTK
          go_wp2
          go_roundg (s.size + 2 - (j + 1))
          case measure => have := HN.out; omega
          case rel =>
            have h := blk_put (cs' := #[.string s, .int .i64 ((j : Int) + 1), .int .i64 k, .string x]) HCUR.out 1 (.int .i64 ((j : Int) + 1)) rfl
            exact ⟨j + 1, 0, rfl, rfl, HB2.out, h, HT.out.set 1 _⟩
      · subst h2
        have h5 : b.toNat ≠ 32 ∧ b.toNat ≠ 9 ∧ b.toNat ≠ 13 ∧ b.toNat ≠ 10 := by
          simp only [isBlank, Bool.or_eq_false_iff, beq_eq_false_iff_ne] at h4
          exact ⟨h4.1, h4.2.1, h4.2.2.1, h4.2.2.2⟩
        obtain ⟨h5, h6, h7, h9⟩ := h5
        have HTJ := Lib.hid h1
        clear h1 hO HB h4
        have gd : decide ((0 : Int) < ((0 : Nat) : Int)) = false := rfl
        have g40 : ((b.toNat : Int) == 40) = false := by rw [beq_eq_false_iff_ne]; omega
        have e32 : ((b.toNat : Int) == 32) = false := by rw [beq_eq_false_iff_ne]; omega
        have e9 : ((b.toNat : Int) == 9) = false := by rw [beq_eq_false_iff_ne]; omega
        have e13 : ((b.toNat : Int) == 13) = false := by rw [beq_eq_false_iff_ne]; omega
        have e10 : ((b.toNat : Int) == 10) = false := by rw [beq_eq_false_iff_ne]; omega
        go_wp2_with fail
        go_quiet (fail)
        have HK := Lib.hid (blk_drewN HCUR.out nq)
        have HTK := Lib.hid (HT.out.drewN nq)
        clear c0 c1 z1 HCUR HT
        generalize wr.drewN nq = wr at *
        have c0 : wr.cell? ⟨c, 0, none⟩ = some (.string s) := cell_of_row wr c 0 _ _ _ HK.out
        have c1 : wr.cell? ⟨c, 1, none⟩ = some (.int .i64 (j : Nat)) := cell_of_row wr c 1 _ _ _ HK.out
        have z1 : wr.frozen? ⟨c, 1, none⟩ = false := frozen_of_row wr c 1 _ _ HK.out
        have HCUR := Lib.hid HK.out
        have HT := Lib.hid HTK.out
        clear HK HTK
        go_wp2_with fail
        go_quiet (fail)
        have HK := Lib.hid (blk_drewN HCUR.out nq)
        have HTK := Lib.hid (HT.out.drewN nq)
        clear c0 c1 z1 HCUR HT
        generalize wr.drewN nq = wr at *
        have c0 : wr.cell? ⟨c, 0, none⟩ = some (.string s) := cell_of_row wr c 0 _ _ _ HK.out
        have c1 : wr.cell? ⟨c, 1, none⟩ = some (.int .i64 (j : Nat)) := cell_of_row wr c 1 _ _ _ HK.out
        have z1 : wr.frozen? ⟨c, 1, none⟩ = false := frozen_of_row wr c 1 _ _ HK.out
        have HCUR := Lib.hid HK.out
        have HT := Lib.hid HTK.out
        clear HK HTK
        go_wp2
        go_still_tail 13, (by kernel_rfl)
        have HK := Lib.hid (blk_drew HCUR.out)
        have HTK := Lib.hid HT.out.drew
        clear c0 c1 z1 HCUR HT
        change wpList _ _ _ _ _ wr.drew
        generalize wr.drew = w3 at *
        have z1 : w3.frozen? ⟨c, 1, none⟩ = false := frozen_of_row w3 c 1 _ _ HK.out
        have c1 : w3.cell? ⟨c, 1, none⟩ = some (.int .i64 (j : Nat)) := cell_of_row w3 c 1 _ _ _ HK.out
        have hnj : ¬ s.size < j := by omega
        go_wp2
        go_end0
        refine ⟨rfl, ?_, HTK.out.set 1 _⟩
        rw [HTJ.out]
        exact blk_put (cs' := #[.string s, .int .i64 (j : Int), .int .i64 k, .string x]) HK.out 1 _ rfl
    · have hg : decide ((j : Int) < (s.size : Int)) = false := decide_eq_false (by omega)
      have hg2 : decide (j < s.size) = false := decide_eq_false (by omega)
      have hTl := bl_done HB.out (by omega)
      have HTL := Lib.hid hTl
      clear hTl
      go_wp2_with fail
      go_quiet (fail)
      go_wp2_with fail
      have HK := Lib.hid (blk_drewN HCUR.out nq)
      have HTK := Lib.hid (HT.out.drewN nq)
      clear c0 c1 z1 HCUR HT
      generalize wr.drewN nq = wr at *
      have c0 : wr.cell? ⟨c, 0, none⟩ = some (.string s) := cell_of_row wr c 0 _ _ _ HK.out
      have c1 : wr.cell? ⟨c, 1, none⟩ = some (.int .i64 (j : Nat)) := cell_of_row wr c 1 _ _ _ HK.out
      have z1 : wr.frozen? ⟨c, 1, none⟩ = false := frozen_of_row wr c 1 _ _ HK.out
      have HCUR := Lib.hid HK.out
      have HT := Lib.hid HTK.out
      clear HK HTK
      go_still_tail 13, (by kernel_rfl)
      have HK := Lib.hid (blk_drew HCUR.out)
      have HTK := Lib.hid HT.out.drew
      clear c0 c1 z1 HCUR HT
      change wpList _ _ _ _ _ wr.drew
      generalize wr.drew = w3 at *
      have z1 : w3.frozen? ⟨c, 1, none⟩ = false := frozen_of_row w3 c 1 _ _ HK.out
      have c1 : w3.cell? ⟨c, 1, none⟩ = some (.int .i64 (j : Nat)) := cell_of_row w3 c 1 _ _ _ HK.out
      have hTs : T = s.size := by have := HTL.out; omega
      have HTS := Lib.hid hTs
      clear hTs
      by_cases hq : s.size < j
      · go_wp2
        go_end0
        refine ⟨rfl, ?_, HTK.out.set 1 _⟩
        rw [HTS.out]
        exact blk_put (cs' := #[.string s, .int .i64 (s.size : Int), .int .i64 k, .string x]) HK.out 1 _ rfl
      · have HJ := Lib.hid (show j = s.size by omega)
        go_wp2
        go_end0
        refine ⟨rfl, ?_, HTK.out.set 1 _⟩
        rw [HTS.out, ← HJ.out]
        exact blk_put (cs' := #[.string s, .int .i64 (j : Int), .int .i64 k, .string x]) HK.out 1 _ rfl
end Go.Proofs.YtjlchnmpebdggaaDoor.Mo
end
section
namespace Go.Proofs.YtjlchnmpebdggaaDoor.Mo
open Go.RowKit Go.Proofs.YtjlchnmpebdggaaDoorW.PrintWords
theorem blanksL_le : ∀ (n : Nat) (l : List UInt8) (d : Nat), l.length ≤ n → blanksL l d ≤ l.length
  | n, [], d, _ => by unfold blanksL; exact Nat.le_refl _
  | n + 1, c :: r, d, h => by
    rw [List.length_cons] at h
    have h1 := blanksL_le n r
    unfold blanksL
    rw [List.length_cons]
    split
    · have := h1 (d + 1) (by omega); omega
    · split
      · have := h1 (d - 1) (by omega); omega
      · split
        · cases r with
          | nil => simp
          | cons y r' =>
            have := blanksL_le n r' d (by rw [List.length_cons] at h; omega)
            rw [List.length_cons]
            simp only
            omega
        · split
          · have := h1 d (by omega); omega
          · omega
theorem blankP_le (l : List UInt8) (i : Nat) (h : i ≤ l.length) : blankP l i ≤ l.length ∧ i ≤ blankP l i := by
  unfold blankP
  have := blanksL_le _ (l.drop i) 0 (Nat.le_refl _)
  rw [List.length_drop] at this
  omega
def pieceAt (l : List UInt8) (i : Nat) : Nat × Int :=
  let b := l.getD i 0
  if isLet b = true then (runP isLet l (i + 1), 1)
  else if isDig b = true then (runP isDig l (i + 1), 2)
  else if b.toNat = 43 ∨ b.toNat = 45 then (runP isDig l (i + 1), if i + 1 < runP isDig l (i + 1) then 3 else 6)
  else if b.toNat = 44 then (i + 1, 4) else if b.toNat = 58 then (i + 1, 5) else (i + 1, 6)
def nextP (s : ByteArray) (i : Nat) : Nat × Int × ByteArray :=
  let f := blankP s.data.toList i
  if f = s.size then (f, 0, ⟨#[]⟩) else ((pieceAt s.data.toList f).1, (pieceAt s.data.toList f).2, s.extract f (pieceAt s.data.toList f).1)
theorem pieceAt_le (l : List UInt8) (i : Nat) (h : i < l.length) : i + 1 ≤ (pieceAt l i).1 ∧ (pieceAt l i).1 ≤ l.length := by
  have h1 := runP_le isLet l (i + 1) (by omega)
  have h2 := runP_le isDig l (i + 1) (by omega)
  unfold pieceAt
  simp only
  repeat' split
  all_goals (simp only; omega)
theorem nextP_le (s : ByteArray) (i : Nat) (h : i ≤ s.size) : (nextP s i).1 ≤ s.size := by
  have hl := toList_len s
  have h1 := blankP_le s.data.toList i (by omega)
  unfold nextP
  simp only
  split
  · omega
  · have := pieceAt_le s.data.toList (blankP s.data.toList i) (by omega)
    simp only
    omega
theorem cur4 {c t : Nat} {s : ByteArray} {i : Nat} {k : Int} {x : ByteArray} {w : World} (h : Cur c t s i k x w) :
    w.cell? ⟨c, 0, none⟩ = some (.string s) ∧ w.cell? ⟨c, 1, none⟩ = some (.int .i64 (i : Nat)) ∧ w.cell? ⟨c, 2, none⟩ = some (.int .i64 k) ∧ w.cell? ⟨c, 3, none⟩ = some (.string x) ∧
    w.frozen? ⟨c, 1, none⟩ = false ∧ w.frozen? ⟨c, 2, none⟩ = false ∧ w.frozen? ⟨c, 3, none⟩ = false := by
  have h' : w.heap[c]? = some (.cells #[.string s, .int .i64 i, .int .i64 k, .string x] t (0, 0)) := h
  exact ⟨cell_of_row w c 0 _ _ _ h', cell_of_row w c 1 _ _ _ h', cell_of_row w c 2 _ _ _ h', cell_of_row w c 3 _ _ _ h', frozen_of_row w c 1 _ _ h', frozen_of_row w c 2 _ _ h', frozen_of_row w c 3 _ _ h'⟩
theorem Cur.at_ {c t : Nat} {s : ByteArray} {i : Nat} {k : Int} {x : ByteArray} {w : World} (h : Cur c t s i k x w) (j : Nat) (v : Value) (hv : v = .int .i64 (j : Nat)) : Cur c t s j k x (w.setCell ⟨c, 1, none⟩ v) := by
  subst hv; exact blk_put (cs' := #[.string s, .int .i64 (j : Nat), .int .i64 k, .string x]) h 1 _ rfl
theorem Cur.kind {c t : Nat} {s : ByteArray} {i : Nat} {k : Int} {x : ByteArray} {w : World} (h : Cur c t s i k x w) (k' : Int) : Cur c t s i k' x (w.setCell ⟨c, 2, none⟩ (.int .i64 k')) :=
  blk_put (cs' := #[.string s, .int .i64 i, .int .i64 k', .string x]) h 2 _ rfl
theorem Cur.text {c t : Nat} {s : ByteArray} {i : Nat} {k : Int} {x : ByteArray} {w : World} (h : Cur c t s i k x w) (y : ByteArray) : Cur c t s i k y (w.setCell ⟨c, 3, none⟩ (.string y)) :=
  blk_put (cs' := #[.string s, .int .i64 i, .int .i64 k, .string y]) h 3 _ rfl
theorem Cur.drewN {c t : Nat} {s : ByteArray} {i : Nat} {k : Int} {x : ByteArray} {w : World} (h : Cur c t s i k x w) (n : Nat) : Cur c t s i k x (w.drewN n) := h
theorem Cur.drew {c t : Nat} {s : ByteArray} {i : Nat} {k : Int} {x : ByteArray} {w : World} (h : Cur c t s i k x w) : Cur c t s i k x w.drew := h
set_option maxHeartbeats 2000000 in
set_option maxRecDepth 100000 in
theorem next_calls (c t : Nat) (s : ByteArray) (i : Nat) (k : Int) (x : ByteArray) (w : World) (hs : s.size ≤ 140737488351232) (hi : i ≤ s.size) (hc : Cur c t s i k x w) :
    Calls Tryd.prog 52 #[.pointer (some ⟨c, 0, none⟩)] w fun e w' => e = .returned (.tuple #[]) ∧ Cur c t s (nextP s i).1 (nextP s i).2.1 (nextP s i).2.2 w' ∧ Turned c w w' := by
  have hl := toList_len s
  have HC0 := Lib.hid hc
  clear hc
  have hf := blankP_le s.data.toList i (by omega)
  have hbl := fun w k x h => blanks_calls c t s i k x w hs hi h
  have hNX : Hid (nextP s i = if blankP s.data.toList i = s.size then (blankP s.data.toList i, 0, ⟨#[]⟩) else ((pieceAt s.data.toList (blankP s.data.toList i)).1, (pieceAt s.data.toList (blankP s.data.toList i)).2, s.extract (blankP s.data.toList i) (pieceAt s.data.toList (blankP s.data.toList i)).1)) := Lib.hid rfl
  generalize blankP s.data.toList i = f at *
  have HBL := Lib.hid hbl
  clear hbl
  go_enter Tryd.func52, Tryd.ntmps52
  go_wp2_with fail
  refine (HBL.out w k x HC0.out).mono ?_
  rintro e w1 ⟨rfl, hc1, ht1⟩
  have HC := Lib.hid hc1
  have HT := Lib.hid ht1
  clear hc1 ht1 HBL
  obtain ⟨c0, c1, c2, c3, z1, z2, z3⟩ := cur4 HC.out
  have hfl : f ≤ s.size := by omega
  by_cases hz : f = s.size
  · have hq : ((f : Int) == (s.size : Int)) = true := by rw [beq_iff_eq]; omega
    have HP : Hid (nextP s i = (f, 0, ⟨#[]⟩)) := by show nextP s i = _; rw [hNX.out, if_pos hz]
    clear hNX
    have HZ := Lib.hid hz
    clear hz
    go_wp2
    exact bodyPost_ret (v := .tuple #[]) (by simp [results, Tryd.results52, go_sem]) rfl ⟨rfl, by rw [HP.out]; exact (HC.out.kind 0).text ⟨#[]⟩, (HT.out.set 2 _).set 3 _⟩
  · have hq : ((f : Int) == (s.size : Int)) = false := by rw [beq_eq_false_iff_ne]; omega
    have hlt : f < s.size := by omega
    have hx0 : (0 : Int) ≤ (f : Int) := by omega
    have hx1 : (f : Int) < (s.size : Int) := by omega
    have hlen : f < s.data.toList.length := by omega
    obtain ⟨b, hb⟩ : ∃ b, s[f]'hlt = b := ⟨_, rfl⟩
    have hgb : s.data.toList.getD f 0 = b := by rw [List.getD_eq_getElem?_getD, List.getElem?_eq_getElem hlen]; exact hb
    have HP0 : Hid (nextP s i = ((pieceAt s.data.toList f).1, (pieceAt s.data.toList f).2, s.extract f (pieceAt s.data.toList f).1)) := by show nextP s i = _; rw [hNX.out, if_neg hz]
    have HPI : Hid (pieceAt s.data.toList f = if isLet b = true then (runP isLet s.data.toList (f + 1), 1) else if isDig b = true then (runP isDig s.data.toList (f + 1), 2)
      else if b.toNat = 43 ∨ b.toNat = 45 then (runP isDig s.data.toList (f + 1), if f + 1 < runP isDig s.data.toList (f + 1) then 3 else 6)
      else if b.toNat = 44 then (f + 1, 4) else if b.toNat = 58 then (f + 1, 5) else (f + 1, 6)) := by show pieceAt s.data.toList f = _; unfold pieceAt; simp only [hgb]
    have hd1 := runP_le isDig s.data.toList (f + 1) (by omega)
    have hd2 := runP_le isLet s.data.toList (f + 1) (by omega)
    clear hNX hz hgb
    go_wp2_with fail
    have HC1 := Lib.hid (HC.out.at_ (f + 1) (.int .i64 ((f : Int) + 1)) rfl)
    have HT1 := Lib.hid (HT.out.set 1 (.int .i64 ((f : Int) + 1)))
    clear c0 c1 c2 c3 z1 z2 z3 HC HT
    generalize w1.setCell ⟨c, 1, none⟩ (.int .i64 ((f : Int) + 1)) = wr at *
    cases hL : isLet b with
    | true =>
      have HP : Hid (nextP s i = (runP isLet s.data.toList (f + 1), 1, s.extract f (runP isLet s.data.toList (f + 1)))) := by show nextP s i = _; rw [HP0.out, HPI.out, if_pos hL]
      have htl := asks_letter.tells b
      rw [hL] at htl
      have HTL := Lib.hid htl
      have hrun := fun w k x h => run_calls 89 isLet asks_letter c t s (f + 1) k x w hs (by omega) h
      have HRUN := Lib.hid hrun
      have hentry := asks_letter.entry
      clear htl hL HP0 HPI hrun
      generalize runP isLet s.data.toList (f + 1) = j at *
      refine (HTL.out _).mono ?_
      rintro e w2 ⟨rfl, ⟨nd, rfl⟩⟩
      have HC2 := Lib.hid (HC1.out.drewN nd)
      have HT2 := Lib.hid (HT1.out.drewN nd)
      clear HC1 HT1
      generalize wr.drewN nd = wr at *
      obtain ⟨c0, c1, c2, c3, z1, z2, z3⟩ := cur4 HC2.out
      go_wp2_with fail
      refine (HRUN.out _ _ _ (HC2.out.kind 1)).mono ?_
      rintro e w3 ⟨rfl, hc3, ht3⟩
      have HC := Lib.hid hc3
      have HT := Lib.hid ((HT2.out.set 2 (.int .i64 1)).trans ht3)
      clear c0 c1 c2 c3 z1 z2 z3 hc3 ht3 HC2 HT2
      generalize w3 = wr at *
      have hsl : ∀ w' : World, (Instr.slice 9 (.string s) (some (.int .i64 (f : Int))) (some (.int .i64 (j : Int))) none).run Tryd.prog w' = .ok (.string (s.extract f j)) w' := fun w' => by
        rw [run_slice_string (P := Tryd.prog) w' 9 s .i64 .i64 (f : Int) (j : Int) Tryd.underlying9 (by omega) (by omega) (by omega), Int.toNat_natCast, Int.toNat_natCast]
      obtain ⟨c0, c1, c2, c3, z1, z2, z3⟩ := cur4 HC.out
      go_wp2_with fail
      go_still_tail 13, (by kernel_rfl)
      have HK := Lib.hid HC.out.drew
      have HTK := Lib.hid HT.out.drew
      clear c0 c1 c2 c3 z1 z2 z3 HC HT
      change wpList _ _ _ _ _ (World.drew _)
      generalize World.drew _ = w9 at *
      obtain ⟨c0, c1, c2, c3, z1, z2, z3⟩ := cur4 HK.out
      go_wp2
      go_end0
      exact ⟨rfl, by rw [HP.out]; exact HK.out.text _, HTK.out.set 3 _⟩
    | false =>
      have htl := asks_letter.tells b
      rw [hL] at htl
      have HTL := Lib.hid htl
      have HPJ : Hid (pieceAt s.data.toList f = if isDig b = true then (runP isDig s.data.toList (f + 1), 2)
        else if b.toNat = 43 ∨ b.toNat = 45 then (runP isDig s.data.toList (f + 1), if f + 1 < runP isDig s.data.toList (f + 1) then 3 else 6)
        else if b.toNat = 44 then (f + 1, 4) else if b.toNat = 58 then (f + 1, 5) else (f + 1, 6)) := by show pieceAt s.data.toList f = _; rw [HPI.out, if_neg (by simp [hL])]
      clear htl hL HPI
      refine (HTL.out _).mono ?_
      rintro e w2 ⟨rfl, ⟨nd, rfl⟩⟩
      have HC2 := Lib.hid (HC1.out.drewN nd)
      have HT2 := Lib.hid (HT1.out.drewN nd)
      clear HC1 HT1
      generalize wr.drewN nd = wr at *
      go_wp2_with fail
      cases hL : isDig b with
      | true =>
        have HP : Hid (nextP s i = (runP isDig s.data.toList (f + 1), 2, s.extract f (runP isDig s.data.toList (f + 1)))) := by show nextP s i = _; rw [HP0.out, HPJ.out, if_pos hL]
        have htl := asks_digit.tells b
        rw [hL] at htl
        have HTL := Lib.hid htl
        have hrun := fun w k x h => run_calls 91 isDig asks_digit c t s (f + 1) k x w hs (by omega) h
        have HRUN := Lib.hid hrun
        have hentry := asks_digit.entry
        clear htl hL HP0 HPJ hrun
        generalize runP isDig s.data.toList (f + 1) = j at *
        refine (HTL.out _).mono ?_
        rintro e w2 ⟨rfl, ⟨nd, rfl⟩⟩
        have HC3 := Lib.hid (HC2.out.drewN nd)
        have HT3 := Lib.hid (HT2.out.drewN nd)
        clear HC2 HT2
        generalize wr.drewN nd = wr at *
        obtain ⟨c0, c1, c2, c3, z1, z2, z3⟩ := cur4 HC3.out
        go_wp2_with fail
        refine (HRUN.out _ _ _ (HC3.out.kind 2)).mono ?_
        rintro e w3 ⟨rfl, hc3, ht3⟩
        have HC := Lib.hid hc3
        have HT := Lib.hid ((HT3.out.set 2 (.int .i64 2)).trans ht3)
        clear c0 c1 c2 c3 z1 z2 z3 hc3 ht3 HC3 HT3
        generalize w3 = wr at *
        have hsl : ∀ w' : World, (Instr.slice 9 (.string s) (some (.int .i64 (f : Int))) (some (.int .i64 (j : Int))) none).run Tryd.prog w' = .ok (.string (s.extract f j)) w' := fun w' => by
          rw [run_slice_string (P := Tryd.prog) w' 9 s .i64 .i64 (f : Int) (j : Int) Tryd.underlying9 (by omega) (by omega) (by omega), Int.toNat_natCast, Int.toNat_natCast]
        obtain ⟨c0, c1, c2, c3, z1, z2, z3⟩ := cur4 HC.out
        go_wp2_with fail
        go_still_tail 13, (by kernel_rfl)
        have HK := Lib.hid HC.out.drew
        have HTK := Lib.hid HT.out.drew
        clear c0 c1 c2 c3 z1 z2 z3 HC HT
        change wpList _ _ _ _ _ (World.drew _)
        generalize World.drew _ = w9 at *
        obtain ⟨c0, c1, c2, c3, z1, z2, z3⟩ := cur4 HK.out
        go_wp2
        go_end0
        exact ⟨rfl, by rw [HP.out]; exact HK.out.text _, HTK.out.set 3 _⟩
      | false =>
        have htl := asks_digit.tells b
        rw [hL] at htl
        have HTL := Lib.hid htl
        have HPK : Hid (pieceAt s.data.toList f = if b.toNat = 43 ∨ b.toNat = 45 then (runP isDig s.data.toList (f + 1), if f + 1 < runP isDig s.data.toList (f + 1) then 3 else 6)
          else if b.toNat = 44 then (f + 1, 4) else if b.toNat = 58 then (f + 1, 5) else (f + 1, 6)) := by show pieceAt s.data.toList f = _; rw [HPJ.out, if_neg (by simp [hL])]
        clear htl hL HPJ
        refine (HTL.out _).mono ?_
        rintro e w2 ⟨rfl, ⟨nd, rfl⟩⟩
        have HC3 := Lib.hid (HC2.out.drewN nd)
        have HT3 := Lib.hid (HT2.out.drewN nd)
        clear HC2 HT2
        generalize wr.drewN nd = wr at *
        obtain ⟨c0, c1, c2, c3, z1, z2, z3⟩ := cur4 HC3.out
        by_cases hsg : b.toNat = 43 ∨ b.toNat = 45
        · have HP1 : Hid (nextP s i = (runP isDig s.data.toList (f + 1), (if f + 1 < runP isDig s.data.toList (f + 1) then 3 else 6 : Int), s.extract f (runP isDig s.data.toList (f + 1)))) := by show nextP s i = _; rw [HP0.out, HPK.out, if_pos hsg]
          have hrun := fun w k x h => run_calls 91 isDig asks_digit c t s (f + 1) k x w hs (by omega) h
          have HRUN := Lib.hid hrun
          have hentry := asks_digit.entry
          clear HP0 HPK hrun
          generalize runP isDig s.data.toList (f + 1) = j at *
          have hsg2 : b.toNat = 43 ∨ b.toNat ≠ 43 ∧ b.toNat = 45 := by omega
          clear hsg
          rcases hsg2 with h43 | ⟨h43, h45⟩
          · have g43 : ((b.toNat : Int) == 43) = true := by rw [beq_iff_eq]; omega
            go_wp2_with fail
            refine (HRUN.out _ _ _ (HC3.out.kind 6)).mono ?_
            rintro e w3 ⟨rfl, hc3, ht3⟩
            have HC4 := Lib.hid hc3
            have HT4 := Lib.hid ((HT3.out.set 2 (.int .i64 6)).trans ht3)
            clear c0 c1 c2 c3 z1 z2 z3 hc3 ht3 HC3 HT3
            obtain ⟨c0, c1, c2, c3, z1, z2, z3⟩ := cur4 HC4.out
            by_cases hj : f + 1 < j
            · have HP : Hid (nextP s i = (j, 3, s.extract f j)) := by show nextP s i = _; rw [HP1.out, if_pos hj]
              clear HP1
              go_upto_region 22 with fail
              have HC := Lib.hid (HC4.out.kind 3)
              have HT := Lib.hid (HT4.out.set 2 (.int .i64 3))
              clear c0 c1 c2 c3 z1 z2 z3 HC4 HT4
              generalize w3.setCell ⟨c, 2, none⟩ (.int .i64 3) = wr at *
              have hsl : ∀ w' : World, (Instr.slice 9 (.string s) (some (.int .i64 (f : Int))) (some (.int .i64 (j : Int))) none).run Tryd.prog w' = .ok (.string (s.extract f j)) w' := fun w' => by
                rw [run_slice_string (P := Tryd.prog) w' 9 s .i64 .i64 (f : Int) (j : Int) Tryd.underlying9 (by omega) (by omega) (by omega), Int.toNat_natCast, Int.toNat_natCast]
              obtain ⟨c0, c1, c2, c3, z1, z2, z3⟩ := cur4 HC.out
              go_wp2_with fail
              go_still_tail 13, (by kernel_rfl)
              have HK := Lib.hid HC.out.drew
              have HTK := Lib.hid HT.out.drew
              clear c0 c1 c2 c3 z1 z2 z3 HC HT
              change wpList _ _ _ _ _ (World.drew _)
              generalize World.drew _ = w9 at *
              obtain ⟨c0, c1, c2, c3, z1, z2, z3⟩ := cur4 HK.out
              go_wp2
              go_end0
              exact ⟨rfl, by rw [HP.out]; exact HK.out.text _, HTK.out.set 3 _⟩
            · have HP : Hid (nextP s i = (j, 6, s.extract f j)) := by show nextP s i = _; rw [HP1.out, if_neg hj]
              clear HP1
              go_upto_region 22 with fail
              have HC := Lib.hid HC4.out
              have HT := Lib.hid HT4.out
              clear c0 c1 c2 c3 z1 z2 z3 HC4 HT4
              generalize w3 = wr at *
              have hsl : ∀ w' : World, (Instr.slice 9 (.string s) (some (.int .i64 (f : Int))) (some (.int .i64 (j : Int))) none).run Tryd.prog w' = .ok (.string (s.extract f j)) w' := fun w' => by
                rw [run_slice_string (P := Tryd.prog) w' 9 s .i64 .i64 (f : Int) (j : Int) Tryd.underlying9 (by omega) (by omega) (by omega), Int.toNat_natCast, Int.toNat_natCast]
              obtain ⟨c0, c1, c2, c3, z1, z2, z3⟩ := cur4 HC.out
              go_wp2_with fail
              go_still_tail 13, (by kernel_rfl)
              have HK := Lib.hid HC.out.drew
              have HTK := Lib.hid HT.out.drew
              clear c0 c1 c2 c3 z1 z2 z3 HC HT
              change wpList _ _ _ _ _ (World.drew _)
              generalize World.drew _ = w9 at *
              obtain ⟨c0, c1, c2, c3, z1, z2, z3⟩ := cur4 HK.out
              go_wp2
              go_end0
              exact ⟨rfl, by rw [HP.out]; exact HK.out.text _, HTK.out.set 3 _⟩
          · have g43 : ((b.toNat : Int) == 43) = false := by rw [beq_eq_false_iff_ne]; omega
            have g45 : ((b.toNat : Int) == 45) = true := by rw [beq_iff_eq]; omega
            go_wp2_with fail
            refine (HRUN.out _ _ _ (HC3.out.kind 6)).mono ?_
            rintro e w3 ⟨rfl, hc3, ht3⟩
            have HC4 := Lib.hid hc3
            have HT4 := Lib.hid ((HT3.out.set 2 (.int .i64 6)).trans ht3)
            clear c0 c1 c2 c3 z1 z2 z3 hc3 ht3 HC3 HT3
            obtain ⟨c0, c1, c2, c3, z1, z2, z3⟩ := cur4 HC4.out
            by_cases hj : f + 1 < j
            · have HP : Hid (nextP s i = (j, 3, s.extract f j)) := by show nextP s i = _; rw [HP1.out, if_pos hj]
              clear HP1
              go_upto_region 22 with fail
              have HC := Lib.hid (HC4.out.kind 3)
              have HT := Lib.hid (HT4.out.set 2 (.int .i64 3))
              clear c0 c1 c2 c3 z1 z2 z3 HC4 HT4
              generalize w3.setCell ⟨c, 2, none⟩ (.int .i64 3) = wr at *
              have hsl : ∀ w' : World, (Instr.slice 9 (.string s) (some (.int .i64 (f : Int))) (some (.int .i64 (j : Int))) none).run Tryd.prog w' = .ok (.string (s.extract f j)) w' := fun w' => by
                rw [run_slice_string (P := Tryd.prog) w' 9 s .i64 .i64 (f : Int) (j : Int) Tryd.underlying9 (by omega) (by omega) (by omega), Int.toNat_natCast, Int.toNat_natCast]
              obtain ⟨c0, c1, c2, c3, z1, z2, z3⟩ := cur4 HC.out
              go_wp2_with fail
              go_still_tail 13, (by kernel_rfl)
              have HK := Lib.hid HC.out.drew
              have HTK := Lib.hid HT.out.drew
              clear c0 c1 c2 c3 z1 z2 z3 HC HT
              change wpList _ _ _ _ _ (World.drew _)
              generalize World.drew _ = w9 at *
              obtain ⟨c0, c1, c2, c3, z1, z2, z3⟩ := cur4 HK.out
              go_wp2
              go_end0
              exact ⟨rfl, by rw [HP.out]; exact HK.out.text _, HTK.out.set 3 _⟩
            · have HP : Hid (nextP s i = (j, 6, s.extract f j)) := by show nextP s i = _; rw [HP1.out, if_neg hj]
              clear HP1
              go_upto_region 22 with fail
              have HC := Lib.hid HC4.out
              have HT := Lib.hid HT4.out
              clear c0 c1 c2 c3 z1 z2 z3 HC4 HT4
              generalize w3 = wr at *
              have hsl : ∀ w' : World, (Instr.slice 9 (.string s) (some (.int .i64 (f : Int))) (some (.int .i64 (j : Int))) none).run Tryd.prog w' = .ok (.string (s.extract f j)) w' := fun w' => by
                rw [run_slice_string (P := Tryd.prog) w' 9 s .i64 .i64 (f : Int) (j : Int) Tryd.underlying9 (by omega) (by omega) (by omega), Int.toNat_natCast, Int.toNat_natCast]
              obtain ⟨c0, c1, c2, c3, z1, z2, z3⟩ := cur4 HC.out
              go_wp2_with fail
              go_still_tail 13, (by kernel_rfl)
              have HK := Lib.hid HC.out.drew
              have HTK := Lib.hid HT.out.drew
              clear c0 c1 c2 c3 z1 z2 z3 HC HT
              change wpList _ _ _ _ _ (World.drew _)
              generalize World.drew _ = w9 at *
              obtain ⟨c0, c1, c2, c3, z1, z2, z3⟩ := cur4 HK.out
              go_wp2
              go_end0
              exact ⟨rfl, by rw [HP.out]; exact HK.out.text _, HTK.out.set 3 _⟩
        · have h43 : b.toNat ≠ 43 := fun h => hsg (.inl h)
          have h45 : b.toNat ≠ 45 := fun h => hsg (.inr h)
          have g43 : ((b.toNat : Int) == 43) = false := by rw [beq_eq_false_iff_ne]; omega
          have g45 : ((b.toNat : Int) == 45) = false := by rw [beq_eq_false_iff_ne]; omega
          have HPL : Hid (pieceAt s.data.toList f = if b.toNat = 44 then (f + 1, 4) else if b.toNat = 58 then (f + 1, 5) else (f + 1, 6)) := by show pieceAt s.data.toList f = _; rw [HPK.out, if_neg hsg]
          clear HPK hsg
          by_cases h44 : b.toNat = 44
          · have g44 : ((b.toNat : Int) == 44) = true := by rw [beq_iff_eq]; omega
            have HP : Hid (nextP s i = (f + 1, 4, s.extract f (f + 1))) := by show nextP s i = _; rw [HP0.out, HPL.out, if_pos h44]
            clear HP0 HPL
            go_upto_region 22 with fail
            have HC := Lib.hid (HC3.out.kind 4)
            have HT := Lib.hid (HT3.out.set 2 (.int .i64 4))
            clear c0 c1 c2 c3 z1 z2 z3 HC3 HT3
            generalize wr.setCell ⟨c, 2, none⟩ (.int .i64 4) = wr at *
            obtain ⟨j, hj⟩ : ∃ j, j = f + 1 := ⟨_, rfl⟩
            rw [← hj] at HC HP
            have hj1 : f ≤ j := by omega
            have hj2 : j ≤ s.size := by omega
            clear hj hd1 hd2
            have hsl : ∀ w' : World, (Instr.slice 9 (.string s) (some (.int .i64 (f : Int))) (some (.int .i64 (j : Int))) none).run Tryd.prog w' = .ok (.string (s.extract f j)) w' := fun w' => by
              rw [run_slice_string (P := Tryd.prog) w' 9 s .i64 .i64 (f : Int) (j : Int) Tryd.underlying9 (by omega) (by omega) (by omega), Int.toNat_natCast, Int.toNat_natCast]
            obtain ⟨c0, c1, c2, c3, z1, z2, z3⟩ := cur4 HC.out
            go_wp2_with fail
            go_still_tail 13, (by kernel_rfl)
            have HK := Lib.hid HC.out.drew
            have HTK := Lib.hid HT.out.drew
            clear c0 c1 c2 c3 z1 z2 z3 HC HT
            change wpList _ _ _ _ _ (World.drew _)
            generalize World.drew _ = w9 at *
            obtain ⟨c0, c1, c2, c3, z1, z2, z3⟩ := cur4 HK.out
            go_wp2
            go_end0
            exact ⟨rfl, by rw [HP.out]; exact HK.out.text _, HTK.out.set 3 _⟩
          · have g44 : ((b.toNat : Int) == 44) = false := by rw [beq_eq_false_iff_ne]; omega
            by_cases h58 : b.toNat = 58
            · have g58 : ((b.toNat : Int) == 58) = true := by rw [beq_iff_eq]; omega
              have HP : Hid (nextP s i = (f + 1, 5, s.extract f (f + 1))) := by show nextP s i = _; rw [HP0.out, HPL.out, if_neg h44, if_pos h58]
              clear HP0 HPL
              go_upto_region 22 with fail
              have HC := Lib.hid (HC3.out.kind 5)
              have HT := Lib.hid (HT3.out.set 2 (.int .i64 5))
              clear c0 c1 c2 c3 z1 z2 z3 HC3 HT3
              generalize wr.setCell ⟨c, 2, none⟩ (.int .i64 5) = wr at *
              obtain ⟨j, hj⟩ : ∃ j, j = f + 1 := ⟨_, rfl⟩
              rw [← hj] at HC HP
              have hj1 : f ≤ j := by omega
              have hj2 : j ≤ s.size := by omega
              clear hj hd1 hd2
              have hsl : ∀ w' : World, (Instr.slice 9 (.string s) (some (.int .i64 (f : Int))) (some (.int .i64 (j : Int))) none).run Tryd.prog w' = .ok (.string (s.extract f j)) w' := fun w' => by
                rw [run_slice_string (P := Tryd.prog) w' 9 s .i64 .i64 (f : Int) (j : Int) Tryd.underlying9 (by omega) (by omega) (by omega), Int.toNat_natCast, Int.toNat_natCast]
              obtain ⟨c0, c1, c2, c3, z1, z2, z3⟩ := cur4 HC.out
              go_wp2_with fail
              go_still_tail 13, (by kernel_rfl)
              have HK := Lib.hid HC.out.drew
              have HTK := Lib.hid HT.out.drew
              clear c0 c1 c2 c3 z1 z2 z3 HC HT
              change wpList _ _ _ _ _ (World.drew _)
              generalize World.drew _ = w9 at *
              obtain ⟨c0, c1, c2, c3, z1, z2, z3⟩ := cur4 HK.out
              go_wp2
              go_end0
              exact ⟨rfl, by rw [HP.out]; exact HK.out.text _, HTK.out.set 3 _⟩
            · have g58 : ((b.toNat : Int) == 58) = false := by rw [beq_eq_false_iff_ne]; omega
              have HP : Hid (nextP s i = (f + 1, 6, s.extract f (f + 1))) := by show nextP s i = _; rw [HP0.out, HPL.out, if_neg h44, if_neg h58]
              clear HP0 HPL
              go_upto_region 22 with fail
              have HC := Lib.hid (HC3.out.kind 6)
              have HT := Lib.hid (HT3.out.set 2 (.int .i64 6))
              clear c0 c1 c2 c3 z1 z2 z3 HC3 HT3
              generalize wr.setCell ⟨c, 2, none⟩ (.int .i64 6) = wr at *
              obtain ⟨j, hj⟩ : ∃ j, j = f + 1 := ⟨_, rfl⟩
              rw [← hj] at HC HP
              have hj1 : f ≤ j := by omega
              have hj2 : j ≤ s.size := by omega
              clear hj hd1 hd2
              have hsl : ∀ w' : World, (Instr.slice 9 (.string s) (some (.int .i64 (f : Int))) (some (.int .i64 (j : Int))) none).run Tryd.prog w' = .ok (.string (s.extract f j)) w' := fun w' => by
                rw [run_slice_string (P := Tryd.prog) w' 9 s .i64 .i64 (f : Int) (j : Int) Tryd.underlying9 (by omega) (by omega) (by omega), Int.toNat_natCast, Int.toNat_natCast]
              obtain ⟨c0, c1, c2, c3, z1, z2, z3⟩ := cur4 HC.out
              go_wp2_with fail
              go_still_tail 13, (by kernel_rfl)
              have HK := Lib.hid HC.out.drew
              have HTK := Lib.hid HT.out.drew
              clear c0 c1 c2 c3 z1 z2 z3 HC HT
              change wpList _ _ _ _ _ (World.drew _)
              generalize World.drew _ = w9 at *
              obtain ⟨c0, c1, c2, c3, z1, z2, z3⟩ := cur4 HK.out
              go_wp2
              go_end0
              exact ⟨rfl, by rw [HP.out]; exact HK.out.text _, HTK.out.set 3 _⟩
end Go.Proofs.YtjlchnmpebdggaaDoor.Mo
end
