import Derived.Test.YtjlchnmpebdggaaDoorInt5
import Derived.Test.YtjlchnmpebdggaaDoorInt8
import Derived.Test.YtjlchnmpebdggaaDoorInt9
import Derived.Test.YtjlchnmpebdggaaDoorInt2
section
namespace Go.Proofs.YtjlchnmpebdggaaDoor.Mo
open Go.RowKit Go.Proofs.YtjlchnmpebdggaaDoorW.PrintWords
set_option linter.unusedVariables false
def refD (s : ByteArray) : ByteArray := if bt s 0 = 32 then s.extract 1 2 else s.extract 0 2
set_option maxHeartbeats 4000000 in
set_option maxRecDepth 100000 in
theorem rri_no (s : ByteArray) (w : World) (hf : ¬ formI s) :
    Calls Tryd.prog 37 #[.string s] w fun e w' => e = .returned (.tuple #[.agg #[.int .i64 0, .int .i64 0, .int .i64 0, .int .i64 0, .int .i64 0, .int .i64 0, .int .i64 0], .int .i64 20]) ∧ Below w.heap.size w w' := by
  by_cases h26 : s.size = 26
  · have g26 : ((s.size : Int) != 26) = false := by rw [bne_eq_false_iff_eq]; omega
    have hb11 : 11 < s.size := by omega
    by_cases q11 : bt s 11 = 32
    · have e11 : ((s[11]'hb11).toNat : Int) = 32 := by rw [at_bt]; exact q11
      have hb14 : 14 < s.size := by omega
      by_cases q14 : bt s 14 = 58
      · have e14 : ((s[14]'hb14).toNat : Int) = 58 := by rw [at_bt]; exact q14
        have hb17 : 17 < s.size := by omega
        by_cases q17 : bt s 17 = 58
        · have e17 : ((s[17]'hb17).toNat : Int) = 58 := by rw [at_bt]; exact q17
          have hb20 : 20 < s.size := by omega
          by_cases q20 : bt s 20 = 32
          · have e20 : ((s[20]'hb20).toNat : Int) = 32 := by rw [at_bt]; exact q20
            exact absurd ⟨h26, q11, q14, q17, q20⟩ hf
          · have e20 : (((s[20]'hb20).toNat : Int) != 32) = true := by rw [bne_iff_ne, at_bt]; exact q20
            clear q11
            clear q14
            clear q17
            clear q20
            clear hf
            go_enter Tryd.func37, Tryd.ntmps37
            go_wp2
            exact bodyPost_ret (results_ct rfl _ _ w.heap.size 23 #[.int .i64 0, .int .i64 0, .int .i64 0, .int .i64 0, .int .i64 0, .int .i64 0, .int .i64 0] (0, 0) _ rfl (heap_alloc_new w _) Tryd.underlying23 rfl (by kernel_rfl)) rfl ⟨rfl, below_alloc (Below.refl _ w) _⟩
        · have e17 : (((s[17]'hb17).toNat : Int) != 58) = true := by rw [bne_iff_ne, at_bt]; exact q17
          clear q11
          clear q14
          clear q17
          clear hf
          go_enter Tryd.func37, Tryd.ntmps37
          go_wp2
          exact bodyPost_ret (results_ct rfl _ _ w.heap.size 23 #[.int .i64 0, .int .i64 0, .int .i64 0, .int .i64 0, .int .i64 0, .int .i64 0, .int .i64 0] (0, 0) _ rfl (heap_alloc_new w _) Tryd.underlying23 rfl (by kernel_rfl)) rfl ⟨rfl, below_alloc (Below.refl _ w) _⟩
      · have e14 : (((s[14]'hb14).toNat : Int) != 58) = true := by rw [bne_iff_ne, at_bt]; exact q14
        clear q11
        clear q14
        clear hf
        go_enter Tryd.func37, Tryd.ntmps37
        go_wp2
        exact bodyPost_ret (results_ct rfl _ _ w.heap.size 23 #[.int .i64 0, .int .i64 0, .int .i64 0, .int .i64 0, .int .i64 0, .int .i64 0, .int .i64 0] (0, 0) _ rfl (heap_alloc_new w _) Tryd.underlying23 rfl (by kernel_rfl)) rfl ⟨rfl, below_alloc (Below.refl _ w) _⟩
    · have e11 : (((s[11]'hb11).toNat : Int) != 32) = true := by rw [bne_iff_ne, at_bt]; exact q11
      clear q11
      clear hf
      go_enter Tryd.func37, Tryd.ntmps37
      go_wp2
      exact bodyPost_ret (results_ct rfl _ _ w.heap.size 23 #[.int .i64 0, .int .i64 0, .int .i64 0, .int .i64 0, .int .i64 0, .int .i64 0, .int .i64 0] (0, 0) _ rfl (heap_alloc_new w _) Tryd.underlying23 rfl (by kernel_rfl)) rfl ⟨rfl, below_alloc (Below.refl _ w) _⟩
  · have g26 : ((s.size : Int) != 26) = true := by rw [bne_iff_ne]; omega
    clear h26
    clear hf
    go_enter Tryd.func37, Tryd.ntmps37
    go_wp2
    exact bodyPost_ret (results_ct rfl _ _ w.heap.size 23 #[.int .i64 0, .int .i64 0, .int .i64 0, .int .i64 0, .int .i64 0, .int .i64 0, .int .i64 0] (0, 0) _ rfl (heap_alloc_new w _) Tryd.underlying23 rfl (by kernel_rfl)) rfl ⟨rfl, below_alloc (Below.refl _ w) _⟩
set_option maxHeartbeats 8000000 in
set_option maxRecDepth 100000 in
theorem rri_yes (k : Nat) (s : ByteArray) (y mo dd hh mi se zz : Int) (b c e f g : Bool) (r1 r2 r3 r4 r5 r6 r7 r8 : Int) (w : World) (hf : formI s)
    (h2 : postbagref2_day.f k (refD s) (s.extract 2 11) = some (y, mo, dd, 0, 0, 0, 0, b)) (h3 : postbagref2_count.f k (s.extract 12 14) = some (hh, c)) (h4 : postbagref2_count.f k (s.extract 15 17) = some (mi, e)) (h5 : postbagref2_count.f k (s.extract 18 20) = some (se, f)) (h6 : postbagref2_zoned.f k (s.extract 21 26) = some (zz, g))
    (h : postbagref2_told.f k y mo dd hh mi se zz (b && (c && (e && (f && (g && (decide (hh ≤ 23) && (decide (mi ≤ 59) && decide (se ≤ 59)))))))) = some (r1, r2, r3, r4, r5, r6, r7, r8)) :
    Calls Tryd.prog 37 #[.string s] w fun e w' => e = .returned (.tuple #[.agg #[.int .i64 r1, .int .i64 r2, .int .i64 r3, .int .i64 r4, .int .i64 r5, .int .i64 r6, .int .i64 r7], .int .i64 r8]) ∧ Below w.heap.size w w' := by
  obtain ⟨h26, q11, q14, q17, q20⟩ := hf
  have sl0 : ∀ w' : World, (Instr.slice 9 (.string s) (some (.int .i64 1)) (some (.int .i64 2)) none).run Tryd.prog w' = .ok (.string (s.extract 1 2)) w' := fun w' => by rw [run_slice_string (P := Tryd.prog) w' 9 s .i64 .i64 1 2 Tryd.underlying9 (by omega) (by omega) (by omega)]; rfl
  have sl1 : ∀ w' : World, (Instr.slice 9 (.string s) (some (.int .i64 2)) (some (.int .i64 11)) none).run Tryd.prog w' = .ok (.string (s.extract 2 11)) w' := fun w' => by rw [run_slice_string (P := Tryd.prog) w' 9 s .i64 .i64 2 11 Tryd.underlying9 (by omega) (by omega) (by omega)]; rfl
  have sl2 : ∀ w' : World, (Instr.slice 9 (.string s) (some (.int .i64 12)) (some (.int .i64 14)) none).run Tryd.prog w' = .ok (.string (s.extract 12 14)) w' := fun w' => by rw [run_slice_string (P := Tryd.prog) w' 9 s .i64 .i64 12 14 Tryd.underlying9 (by omega) (by omega) (by omega)]; rfl
  have sl3 : ∀ w' : World, (Instr.slice 9 (.string s) (some (.int .i64 15)) (some (.int .i64 17)) none).run Tryd.prog w' = .ok (.string (s.extract 15 17)) w' := fun w' => by rw [run_slice_string (P := Tryd.prog) w' 9 s .i64 .i64 15 17 Tryd.underlying9 (by omega) (by omega) (by omega)]; rfl
  have sl4 : ∀ w' : World, (Instr.slice 9 (.string s) (some (.int .i64 18)) (some (.int .i64 20)) none).run Tryd.prog w' = .ok (.string (s.extract 18 20)) w' := fun w' => by rw [run_slice_string (P := Tryd.prog) w' 9 s .i64 .i64 18 20 Tryd.underlying9 (by omega) (by omega) (by omega)]; rfl
  have H2 := Lib.hid h2
  have H3 := Lib.hid h3
  have H4 := Lib.hid h4
  have H5 := Lib.hid h5
  have H6 : Hid (postbagref2_zoned.f k (s.extract 21 s.size) = some (zz, g)) := Lib.hid (by rw [h26]; exact h6)
  have HR := Lib.hid h
  have g26 : ((s.size : Int) != 26) = false := by rw [bne_eq_false_iff_eq]; omega
  have hb11 : 11 < s.size := by omega
  have e11 : ((s[11]'hb11).toNat : Int) = 32 := by rw [at_bt]; exact q11
  have hb14 : 14 < s.size := by omega
  have e14 : ((s[14]'hb14).toNat : Int) = 58 := by rw [at_bt]; exact q14
  have hb17 : 17 < s.size := by omega
  have e17 : ((s[17]'hb17).toNat : Int) = 58 := by rw [at_bt]; exact q17
  have hb20 : 20 < s.size := by omega
  have e20 : ((s[20]'hb20).toNat : Int) = 32 := by rw [at_bt]; exact q20
  have hb0 : 0 < s.size := by omega
  have hb26 : 26 ≤ s.size := by omega
  have H26 := Lib.hid h26
  clear h2 h3 h4 h5 h6 h q11 q14 q17 q20 h26
  by_cases q0 : bt s 0 = 32
  · skip
    have e0 : ((s[0]'hb0).toNat : Int) = 32 := by rw [at_bt]; exact q0
    have H2x : Hid (postbagref2_day.f k (s.extract 1 2) (s.extract 2 11) = some (y, mo, dd, 0, 0, 0, 0, b)) := Lib.hid (by have h := H2.out; unfold refD at h; rw [if_pos q0] at h; exact h)
    clear q0 H2
    go_enter Tryd.func37, Tryd.ntmps37
    go_wp2_with fail
    refine (postbagref2_day.calls k (s.extract 1 2) (s.extract 2 11) y mo dd 0 0 0 0 b _ H2x.out).mono ?_
    rintro e1 w1 ⟨rfl, hb1⟩
    have hr1 : w1.heap[w.heap.size]? = some (.cells #[.int .i64 0, .int .i64 0, .int .i64 0, .int .i64 0, .int .i64 0, .int .i64 0, .int .i64 0] 23 (0, 0)) := (hb1.block w.heap.size (by simp)).trans (heap_alloc_new w _)
    have hbe1 : Below w.heap.size w w1 := below_step (by repeat (first | (with_reducible exact Below.refl _ _) | (with_reducible apply pw_below_drewN) | (with_reducible apply below_alloc))) hb1
    have HR1 := Lib.hid hr1
    have HBE1 := Lib.hid hbe1
    have hlt1 : w.heap.size < w1.heap.size := blk_lt hr1
    clear hb1 hr1 hbe1
    go_wp2_with fail
    have hmb := heap_alloc_new w1 (.cells #[.int .i64 y, .int .i64 mo, .int .i64 dd, .int .i64 0, .int .i64 0, .int .i64 0, .int .i64 0] 23)
    have hr2 := (Below.heap_alloc w1 (.cells #[.int .i64 y, .int .i64 mo, .int .i64 dd, .int .i64 0, .int .i64 0, .int .i64 0, .int .i64 0] 23) _ hlt1).trans HR1.out
    have hbe2 := below_alloc HBE1.out (.cells #[.int .i64 y, .int .i64 mo, .int .i64 dd, .int .i64 0, .int .i64 0, .int .i64 0, .int .i64 0] 23)
    generalize w1.alloc (.cells #[.int .i64 y, .int .i64 mo, .int .i64 dd, .int .i64 0, .int .i64 0, .int .i64 0, .int .i64 0] 23) = w2 at *
    generalize w1.heap.size = mb at *
    have HMB := Lib.hid hmb
    have HR2 := Lib.hid hr2
    have HBE2 := Lib.hid hbe2
    clear hmb hr2 hbe2 HR1 HBE1
    refine (postbagref2_count.calls k (s.extract 12 14) hh c _ H3.out).mono ?_
    rintro e1 w3 ⟨rfl, ⟨nd0, rfl⟩⟩
    go_wp2_with fail
    refine (postbagref2_count.calls k (s.extract 15 17) mi e _ H4.out).mono ?_
    rintro e1 w3 ⟨rfl, ⟨nd1, rfl⟩⟩
    go_wp2_with fail
    refine (postbagref2_count.calls k (s.extract 18 20) se f _ H5.out).mono ?_
    rintro e1 w3 ⟨rfl, ⟨nd2, rfl⟩⟩
    go_wp2_with fail
    refine (postbagref2_zoned.calls k (s.extract 21 s.size) zz g _ H6.out).mono ?_
    rintro e1 w3 ⟨rfl, ⟨nd9, rfl⟩⟩
    go_upto_region 11 with fail
    have hm3 := blk_drewN HMB.out (nd0 + nd1 + nd2 + nd9)
    have hr3 := blk_drewN HR2.out (nd0 + nd1 + nd2 + nd9)
    have hbe3 := pw_below_drewN HBE2.out (nd0 + nd1 + nd2 + nd9)
    generalize w2.drewN (nd0 + nd1 + nd2 + nd9) = W at *
    clear HMB HR2 HBE2
    obtain ⟨⟨c0, c1, c2, c3, c4, c5, c6⟩, fz⟩ := cells7 hm3
    have z3 := fz 3
    have z4 := fz 4
    have z5 := fz 5
    have z6 := fz 6
    have HM3 := Lib.hid hm3
    have HR3 := Lib.hid hr3
    have HBE3 := Lib.hid hbe3
    clear fz hm3 hr3 hbe3
    go_upto_region 15 with fail
    have hm4 := blk_put (cs' := #[.int .i64 y, .int .i64 mo, .int .i64 dd, .int .i64 hh, .int .i64 mi, .int .i64 se, .int .i64 zz]) (blk_put (cs' := #[.int .i64 y, .int .i64 mo, .int .i64 dd, .int .i64 hh, .int .i64 mi, .int .i64 se, .int .i64 0]) (blk_put (cs' := #[.int .i64 y, .int .i64 mo, .int .i64 dd, .int .i64 hh, .int .i64 mi, .int .i64 0, .int .i64 0]) (blk_put (cs' := #[.int .i64 y, .int .i64 mo, .int .i64 dd, .int .i64 hh, .int .i64 0, .int .i64 0, .int .i64 0]) HM3.out 3 (.int .i64 hh) rfl) 4 (.int .i64 mi) rfl) 5 (.int .i64 se) rfl) 6 (.int .i64 zz) rfl
    have hne : w.heap.size ≠ mb := Nat.ne_of_lt hlt1
    have hr4 := blk_far (p := ⟨mb, 6, none⟩) (blk_far (p := ⟨mb, 5, none⟩) (blk_far (p := ⟨mb, 4, none⟩) (blk_far (p := ⟨mb, 3, none⟩) HR3.out hne (.int .i64 hh)) hne (.int .i64 mi)) hne (.int .i64 se)) hne (.int .i64 zz)
    have hbe4 := (((HBE3.out.setCell (p := ⟨mb, 3, none⟩) (Nat.le_of_lt hlt1) (.int .i64 hh)).setCell (p := ⟨mb, 4, none⟩) (Nat.le_of_lt hlt1) (.int .i64 mi)).setCell (p := ⟨mb, 5, none⟩) (Nat.le_of_lt hlt1) (.int .i64 se)).setCell (p := ⟨mb, 6, none⟩) (Nat.le_of_lt hlt1) (.int .i64 zz)
    clear c0 c1 c2 c3 c4 c5 c6 z3 z4 z5 z6
    generalize (((W.setCell ⟨mb, 3, none⟩ (.int .i64 hh)).setCell ⟨mb, 4, none⟩ (.int .i64 mi)).setCell ⟨mb, 5, none⟩ (.int .i64 se)).setCell ⟨mb, 6, none⟩ (.int .i64 zz) = W2 at *
    obtain ⟨⟨c0, c1, c2, c3, c4, c5, c6⟩, _⟩ := cells7 hm4
    have HR4 := Lib.hid hr4
    have HBE4 := Lib.hid hbe4
    clear hm4 hr4 hbe4 HM3 HR3 HBE3 hne sl0 sl1 sl2 sl3 sl4 e0 e11 e14 e17 e20 g26
    cases b with
    | false =>
      have HK : Hid (postbagref2_told.f k y mo dd hh mi se zz false = some (r1, r2, r3, r4, r5, r6, r7, r8)) := Lib.hid (by have h := HR.out; simpa using h)
      clear HR
      go_wp2_with fail
      refine (postbagref2_told.calls k y mo dd hh mi se zz false r1 r2 r3 r4 r5 r6 r7 r8 _ HK.out).mono ?_
      rintro e1 w5 ⟨rfl, hb5⟩
      have hr5 := (hb5.block w.heap.size (blk_lt HR4.out)).trans HR4.out
      have hbe5 := below_step HBE4.out hb5
      clear c0 c1 c2 c3 c4 c5 c6 hb5
      go_upto_region 16 with fail
      have hq := heap_alloc_new w5 (.cells #[.int .i64 r1, .int .i64 r2, .int .i64 r3, .int .i64 r4, .int .i64 r5, .int .i64 r6, .int .i64 r7] 23)
      have hr6 := (Below.heap_alloc w5 (.cells #[.int .i64 r1, .int .i64 r2, .int .i64 r3, .int .i64 r4, .int .i64 r5, .int .i64 r6, .int .i64 r7] 23) _ (blk_lt hr5)).trans hr5
      have hbe6 := below_alloc hbe5 (.cells #[.int .i64 r1, .int .i64 r2, .int .i64 r3, .int .i64 r4, .int .i64 r5, .int .i64 r6, .int .i64 r7] 23)
      generalize w5.alloc (.cells #[.int .i64 r1, .int .i64 r2, .int .i64 r3, .int .i64 r4, .int .i64 r5, .int .i64 r6, .int .i64 r7] 23) = w6 at *
      generalize w5.heap.size = nb at *
      clear hr5 hbe5
      obtain ⟨⟨d0, d1, d2, d3, d4, d5, d6⟩, _⟩ := cells7 hq
      obtain ⟨⟨c0, c1, c2, c3, c4, c5, c6⟩, fz⟩ := cells7 hr6
      have z0 := fz 0
      have z1 := fz 1
      have z2 := fz 2
      have z3 := fz 3
      have z4 := fz 4
      have z5 := fz 5
      have z6 := fz 6
      have HR5 := Lib.hid hr6
      have HBE6 := Lib.hid hbe6
      clear fz hr6 hq hbe6
      go_wp2
      exact bodyPost_ret (results_ct rfl _ _ w.heap.size 23 #[.int .i64 r1, .int .i64 r2, .int .i64 r3, .int .i64 r4, .int .i64 r5, .int .i64 r6, .int .i64 r7] (0, 0) _ rfl (set7 HR5.out _ _ _ _ _ _ _).1 Tryd.underlying23 rfl (by kernel_rfl)) rfl ⟨rfl, (set7 HR5.out _ _ _ _ _ _ _).2 _ _ HBE6.out (Nat.le_refl _)⟩
    | true =>
      cases c with
      | false =>
        have HK : Hid (postbagref2_told.f k y mo dd hh mi se zz false = some (r1, r2, r3, r4, r5, r6, r7, r8)) := Lib.hid (by have h := HR.out; simpa using h)
        clear HR
        go_wp2_with fail
        refine (postbagref2_told.calls k y mo dd hh mi se zz false r1 r2 r3 r4 r5 r6 r7 r8 _ HK.out).mono ?_
        rintro e1 w5 ⟨rfl, hb5⟩
        have hr5 := (hb5.block w.heap.size (blk_lt HR4.out)).trans HR4.out
        have hbe5 := below_step HBE4.out hb5
        clear c0 c1 c2 c3 c4 c5 c6 hb5
        go_upto_region 16 with fail
        have hq := heap_alloc_new w5 (.cells #[.int .i64 r1, .int .i64 r2, .int .i64 r3, .int .i64 r4, .int .i64 r5, .int .i64 r6, .int .i64 r7] 23)
        have hr6 := (Below.heap_alloc w5 (.cells #[.int .i64 r1, .int .i64 r2, .int .i64 r3, .int .i64 r4, .int .i64 r5, .int .i64 r6, .int .i64 r7] 23) _ (blk_lt hr5)).trans hr5
        have hbe6 := below_alloc hbe5 (.cells #[.int .i64 r1, .int .i64 r2, .int .i64 r3, .int .i64 r4, .int .i64 r5, .int .i64 r6, .int .i64 r7] 23)
        generalize w5.alloc (.cells #[.int .i64 r1, .int .i64 r2, .int .i64 r3, .int .i64 r4, .int .i64 r5, .int .i64 r6, .int .i64 r7] 23) = w6 at *
        generalize w5.heap.size = nb at *
        clear hr5 hbe5
        obtain ⟨⟨d0, d1, d2, d3, d4, d5, d6⟩, _⟩ := cells7 hq
        obtain ⟨⟨c0, c1, c2, c3, c4, c5, c6⟩, fz⟩ := cells7 hr6
        have z0 := fz 0
        have z1 := fz 1
        have z2 := fz 2
        have z3 := fz 3
        have z4 := fz 4
        have z5 := fz 5
        have z6 := fz 6
        have HR5 := Lib.hid hr6
        have HBE6 := Lib.hid hbe6
        clear fz hr6 hq hbe6
        go_wp2
        exact bodyPost_ret (results_ct rfl _ _ w.heap.size 23 #[.int .i64 r1, .int .i64 r2, .int .i64 r3, .int .i64 r4, .int .i64 r5, .int .i64 r6, .int .i64 r7] (0, 0) _ rfl (set7 HR5.out _ _ _ _ _ _ _).1 Tryd.underlying23 rfl (by kernel_rfl)) rfl ⟨rfl, (set7 HR5.out _ _ _ _ _ _ _).2 _ _ HBE6.out (Nat.le_refl _)⟩
      | true =>
        cases e with
        | false =>
          have HK : Hid (postbagref2_told.f k y mo dd hh mi se zz false = some (r1, r2, r3, r4, r5, r6, r7, r8)) := Lib.hid (by have h := HR.out; simpa using h)
          clear HR
          go_wp2_with fail
          refine (postbagref2_told.calls k y mo dd hh mi se zz false r1 r2 r3 r4 r5 r6 r7 r8 _ HK.out).mono ?_
          rintro e1 w5 ⟨rfl, hb5⟩
          have hr5 := (hb5.block w.heap.size (blk_lt HR4.out)).trans HR4.out
          have hbe5 := below_step HBE4.out hb5
          clear c0 c1 c2 c3 c4 c5 c6 hb5
          go_upto_region 16 with fail
          have hq := heap_alloc_new w5 (.cells #[.int .i64 r1, .int .i64 r2, .int .i64 r3, .int .i64 r4, .int .i64 r5, .int .i64 r6, .int .i64 r7] 23)
          have hr6 := (Below.heap_alloc w5 (.cells #[.int .i64 r1, .int .i64 r2, .int .i64 r3, .int .i64 r4, .int .i64 r5, .int .i64 r6, .int .i64 r7] 23) _ (blk_lt hr5)).trans hr5
          have hbe6 := below_alloc hbe5 (.cells #[.int .i64 r1, .int .i64 r2, .int .i64 r3, .int .i64 r4, .int .i64 r5, .int .i64 r6, .int .i64 r7] 23)
          generalize w5.alloc (.cells #[.int .i64 r1, .int .i64 r2, .int .i64 r3, .int .i64 r4, .int .i64 r5, .int .i64 r6, .int .i64 r7] 23) = w6 at *
          generalize w5.heap.size = nb at *
          clear hr5 hbe5
          obtain ⟨⟨d0, d1, d2, d3, d4, d5, d6⟩, _⟩ := cells7 hq
          obtain ⟨⟨c0, c1, c2, c3, c4, c5, c6⟩, fz⟩ := cells7 hr6
          have z0 := fz 0
          have z1 := fz 1
          have z2 := fz 2
          have z3 := fz 3
          have z4 := fz 4
          have z5 := fz 5
          have z6 := fz 6
          have HR5 := Lib.hid hr6
          have HBE6 := Lib.hid hbe6
          clear fz hr6 hq hbe6
          go_wp2
          exact bodyPost_ret (results_ct rfl _ _ w.heap.size 23 #[.int .i64 r1, .int .i64 r2, .int .i64 r3, .int .i64 r4, .int .i64 r5, .int .i64 r6, .int .i64 r7] (0, 0) _ rfl (set7 HR5.out _ _ _ _ _ _ _).1 Tryd.underlying23 rfl (by kernel_rfl)) rfl ⟨rfl, (set7 HR5.out _ _ _ _ _ _ _).2 _ _ HBE6.out (Nat.le_refl _)⟩
        | true =>
          cases f with
          | false =>
            have HK : Hid (postbagref2_told.f k y mo dd hh mi se zz false = some (r1, r2, r3, r4, r5, r6, r7, r8)) := Lib.hid (by have h := HR.out; simpa using h)
            clear HR
            go_wp2_with fail
            refine (postbagref2_told.calls k y mo dd hh mi se zz false r1 r2 r3 r4 r5 r6 r7 r8 _ HK.out).mono ?_
            rintro e1 w5 ⟨rfl, hb5⟩
            have hr5 := (hb5.block w.heap.size (blk_lt HR4.out)).trans HR4.out
            have hbe5 := below_step HBE4.out hb5
            clear c0 c1 c2 c3 c4 c5 c6 hb5
            go_upto_region 16 with fail
            have hq := heap_alloc_new w5 (.cells #[.int .i64 r1, .int .i64 r2, .int .i64 r3, .int .i64 r4, .int .i64 r5, .int .i64 r6, .int .i64 r7] 23)
            have hr6 := (Below.heap_alloc w5 (.cells #[.int .i64 r1, .int .i64 r2, .int .i64 r3, .int .i64 r4, .int .i64 r5, .int .i64 r6, .int .i64 r7] 23) _ (blk_lt hr5)).trans hr5
            have hbe6 := below_alloc hbe5 (.cells #[.int .i64 r1, .int .i64 r2, .int .i64 r3, .int .i64 r4, .int .i64 r5, .int .i64 r6, .int .i64 r7] 23)
            generalize w5.alloc (.cells #[.int .i64 r1, .int .i64 r2, .int .i64 r3, .int .i64 r4, .int .i64 r5, .int .i64 r6, .int .i64 r7] 23) = w6 at *
            generalize w5.heap.size = nb at *
            clear hr5 hbe5
            obtain ⟨⟨d0, d1, d2, d3, d4, d5, d6⟩, _⟩ := cells7 hq
            obtain ⟨⟨c0, c1, c2, c3, c4, c5, c6⟩, fz⟩ := cells7 hr6
            have z0 := fz 0
            have z1 := fz 1
            have z2 := fz 2
            have z3 := fz 3
            have z4 := fz 4
            have z5 := fz 5
            have z6 := fz 6
            have HR5 := Lib.hid hr6
            have HBE6 := Lib.hid hbe6
            clear fz hr6 hq hbe6
            go_wp2
            exact bodyPost_ret (results_ct rfl _ _ w.heap.size 23 #[.int .i64 r1, .int .i64 r2, .int .i64 r3, .int .i64 r4, .int .i64 r5, .int .i64 r6, .int .i64 r7] (0, 0) _ rfl (set7 HR5.out _ _ _ _ _ _ _).1 Tryd.underlying23 rfl (by kernel_rfl)) rfl ⟨rfl, (set7 HR5.out _ _ _ _ _ _ _).2 _ _ HBE6.out (Nat.le_refl _)⟩
          | true =>
            cases g with
            | false =>
              have HK : Hid (postbagref2_told.f k y mo dd hh mi se zz false = some (r1, r2, r3, r4, r5, r6, r7, r8)) := Lib.hid (by have h := HR.out; simpa using h)
              clear HR
              go_wp2_with fail
              refine (postbagref2_told.calls k y mo dd hh mi se zz false r1 r2 r3 r4 r5 r6 r7 r8 _ HK.out).mono ?_
              rintro e1 w5 ⟨rfl, hb5⟩
              have hr5 := (hb5.block w.heap.size (blk_lt HR4.out)).trans HR4.out
              have hbe5 := below_step HBE4.out hb5
              clear c0 c1 c2 c3 c4 c5 c6 hb5
              go_upto_region 16 with fail
              have hq := heap_alloc_new w5 (.cells #[.int .i64 r1, .int .i64 r2, .int .i64 r3, .int .i64 r4, .int .i64 r5, .int .i64 r6, .int .i64 r7] 23)
              have hr6 := (Below.heap_alloc w5 (.cells #[.int .i64 r1, .int .i64 r2, .int .i64 r3, .int .i64 r4, .int .i64 r5, .int .i64 r6, .int .i64 r7] 23) _ (blk_lt hr5)).trans hr5
              have hbe6 := below_alloc hbe5 (.cells #[.int .i64 r1, .int .i64 r2, .int .i64 r3, .int .i64 r4, .int .i64 r5, .int .i64 r6, .int .i64 r7] 23)
              generalize w5.alloc (.cells #[.int .i64 r1, .int .i64 r2, .int .i64 r3, .int .i64 r4, .int .i64 r5, .int .i64 r6, .int .i64 r7] 23) = w6 at *
              generalize w5.heap.size = nb at *
              clear hr5 hbe5
              obtain ⟨⟨d0, d1, d2, d3, d4, d5, d6⟩, _⟩ := cells7 hq
              obtain ⟨⟨c0, c1, c2, c3, c4, c5, c6⟩, fz⟩ := cells7 hr6
              have z0 := fz 0
              have z1 := fz 1
              have z2 := fz 2
              have z3 := fz 3
              have z4 := fz 4
              have z5 := fz 5
              have z6 := fz 6
              have HR5 := Lib.hid hr6
              have HBE6 := Lib.hid hbe6
              clear fz hr6 hq hbe6
              go_wp2
              exact bodyPost_ret (results_ct rfl _ _ w.heap.size 23 #[.int .i64 r1, .int .i64 r2, .int .i64 r3, .int .i64 r4, .int .i64 r5, .int .i64 r6, .int .i64 r7] (0, 0) _ rfl (set7 HR5.out _ _ _ _ _ _ _).1 Tryd.underlying23 rfl (by kernel_rfl)) rfl ⟨rfl, (set7 HR5.out _ _ _ _ _ _ _).2 _ _ HBE6.out (Nat.le_refl _)⟩
            | true =>
              by_cases u5 : hh ≤ 23
              · skip
                by_cases u6 : mi ≤ 59
                · skip
                  by_cases u7 : se ≤ 59
                  · skip
                    have HK : Hid (postbagref2_told.f k y mo dd hh mi se zz true = some (r1, r2, r3, r4, r5, r6, r7, r8)) := Lib.hid (by have h := HR.out; simpa [u5, u6, u7] using h)
                    clear HR
                    go_wp2_with fail
                    refine (postbagref2_told.calls k y mo dd hh mi se zz true r1 r2 r3 r4 r5 r6 r7 r8 _ HK.out).mono ?_
                    rintro e1 w5 ⟨rfl, hb5⟩
                    have hr5 := (hb5.block w.heap.size (blk_lt HR4.out)).trans HR4.out
                    have hbe5 := below_step HBE4.out hb5
                    clear c0 c1 c2 c3 c4 c5 c6 hb5
                    go_upto_region 16 with fail
                    have hq := heap_alloc_new w5 (.cells #[.int .i64 r1, .int .i64 r2, .int .i64 r3, .int .i64 r4, .int .i64 r5, .int .i64 r6, .int .i64 r7] 23)
                    have hr6 := (Below.heap_alloc w5 (.cells #[.int .i64 r1, .int .i64 r2, .int .i64 r3, .int .i64 r4, .int .i64 r5, .int .i64 r6, .int .i64 r7] 23) _ (blk_lt hr5)).trans hr5
                    have hbe6 := below_alloc hbe5 (.cells #[.int .i64 r1, .int .i64 r2, .int .i64 r3, .int .i64 r4, .int .i64 r5, .int .i64 r6, .int .i64 r7] 23)
                    generalize w5.alloc (.cells #[.int .i64 r1, .int .i64 r2, .int .i64 r3, .int .i64 r4, .int .i64 r5, .int .i64 r6, .int .i64 r7] 23) = w6 at *
                    generalize w5.heap.size = nb at *
                    clear hr5 hbe5
                    obtain ⟨⟨d0, d1, d2, d3, d4, d5, d6⟩, _⟩ := cells7 hq
                    obtain ⟨⟨c0, c1, c2, c3, c4, c5, c6⟩, fz⟩ := cells7 hr6
                    have z0 := fz 0
                    have z1 := fz 1
                    have z2 := fz 2
                    have z3 := fz 3
                    have z4 := fz 4
                    have z5 := fz 5
                    have z6 := fz 6
                    have HR5 := Lib.hid hr6
                    have HBE6 := Lib.hid hbe6
                    clear fz hr6 hq hbe6
                    go_wp2
                    exact bodyPost_ret (results_ct rfl _ _ w.heap.size 23 #[.int .i64 r1, .int .i64 r2, .int .i64 r3, .int .i64 r4, .int .i64 r5, .int .i64 r6, .int .i64 r7] (0, 0) _ rfl (set7 HR5.out _ _ _ _ _ _ _).1 Tryd.underlying23 rfl (by kernel_rfl)) rfl ⟨rfl, (set7 HR5.out _ _ _ _ _ _ _).2 _ _ HBE6.out (Nat.le_refl _)⟩
                  · skip
                    have HK : Hid (postbagref2_told.f k y mo dd hh mi se zz false = some (r1, r2, r3, r4, r5, r6, r7, r8)) := Lib.hid (by have h := HR.out; simpa [u5, u6, u7] using h)
                    clear HR
                    go_wp2_with fail
                    refine (postbagref2_told.calls k y mo dd hh mi se zz false r1 r2 r3 r4 r5 r6 r7 r8 _ HK.out).mono ?_
                    rintro e1 w5 ⟨rfl, hb5⟩
                    have hr5 := (hb5.block w.heap.size (blk_lt HR4.out)).trans HR4.out
                    have hbe5 := below_step HBE4.out hb5
                    clear c0 c1 c2 c3 c4 c5 c6 hb5
                    go_upto_region 16 with fail
                    have hq := heap_alloc_new w5 (.cells #[.int .i64 r1, .int .i64 r2, .int .i64 r3, .int .i64 r4, .int .i64 r5, .int .i64 r6, .int .i64 r7] 23)
                    have hr6 := (Below.heap_alloc w5 (.cells #[.int .i64 r1, .int .i64 r2, .int .i64 r3, .int .i64 r4, .int .i64 r5, .int .i64 r6, .int .i64 r7] 23) _ (blk_lt hr5)).trans hr5
                    have hbe6 := below_alloc hbe5 (.cells #[.int .i64 r1, .int .i64 r2, .int .i64 r3, .int .i64 r4, .int .i64 r5, .int .i64 r6, .int .i64 r7] 23)
                    generalize w5.alloc (.cells #[.int .i64 r1, .int .i64 r2, .int .i64 r3, .int .i64 r4, .int .i64 r5, .int .i64 r6, .int .i64 r7] 23) = w6 at *
                    generalize w5.heap.size = nb at *
                    clear hr5 hbe5
                    obtain ⟨⟨d0, d1, d2, d3, d4, d5, d6⟩, _⟩ := cells7 hq
                    obtain ⟨⟨c0, c1, c2, c3, c4, c5, c6⟩, fz⟩ := cells7 hr6
                    have z0 := fz 0
                    have z1 := fz 1
                    have z2 := fz 2
                    have z3 := fz 3
                    have z4 := fz 4
                    have z5 := fz 5
                    have z6 := fz 6
                    have HR5 := Lib.hid hr6
                    have HBE6 := Lib.hid hbe6
                    clear fz hr6 hq hbe6
                    go_wp2
                    exact bodyPost_ret (results_ct rfl _ _ w.heap.size 23 #[.int .i64 r1, .int .i64 r2, .int .i64 r3, .int .i64 r4, .int .i64 r5, .int .i64 r6, .int .i64 r7] (0, 0) _ rfl (set7 HR5.out _ _ _ _ _ _ _).1 Tryd.underlying23 rfl (by kernel_rfl)) rfl ⟨rfl, (set7 HR5.out _ _ _ _ _ _ _).2 _ _ HBE6.out (Nat.le_refl _)⟩
                · skip
                  have HK : Hid (postbagref2_told.f k y mo dd hh mi se zz false = some (r1, r2, r3, r4, r5, r6, r7, r8)) := Lib.hid (by have h := HR.out; simpa [u5, u6] using h)
                  clear HR
                  go_wp2_with fail
                  refine (postbagref2_told.calls k y mo dd hh mi se zz false r1 r2 r3 r4 r5 r6 r7 r8 _ HK.out).mono ?_
                  rintro e1 w5 ⟨rfl, hb5⟩
                  have hr5 := (hb5.block w.heap.size (blk_lt HR4.out)).trans HR4.out
                  have hbe5 := below_step HBE4.out hb5
                  clear c0 c1 c2 c3 c4 c5 c6 hb5
                  go_upto_region 16 with fail
                  have hq := heap_alloc_new w5 (.cells #[.int .i64 r1, .int .i64 r2, .int .i64 r3, .int .i64 r4, .int .i64 r5, .int .i64 r6, .int .i64 r7] 23)
                  have hr6 := (Below.heap_alloc w5 (.cells #[.int .i64 r1, .int .i64 r2, .int .i64 r3, .int .i64 r4, .int .i64 r5, .int .i64 r6, .int .i64 r7] 23) _ (blk_lt hr5)).trans hr5
                  have hbe6 := below_alloc hbe5 (.cells #[.int .i64 r1, .int .i64 r2, .int .i64 r3, .int .i64 r4, .int .i64 r5, .int .i64 r6, .int .i64 r7] 23)
                  generalize w5.alloc (.cells #[.int .i64 r1, .int .i64 r2, .int .i64 r3, .int .i64 r4, .int .i64 r5, .int .i64 r6, .int .i64 r7] 23) = w6 at *
                  generalize w5.heap.size = nb at *
                  clear hr5 hbe5
                  obtain ⟨⟨d0, d1, d2, d3, d4, d5, d6⟩, _⟩ := cells7 hq
                  obtain ⟨⟨c0, c1, c2, c3, c4, c5, c6⟩, fz⟩ := cells7 hr6
                  have z0 := fz 0
                  have z1 := fz 1
                  have z2 := fz 2
                  have z3 := fz 3
                  have z4 := fz 4
                  have z5 := fz 5
                  have z6 := fz 6
                  have HR5 := Lib.hid hr6
                  have HBE6 := Lib.hid hbe6
                  clear fz hr6 hq hbe6
                  go_wp2
                  exact bodyPost_ret (results_ct rfl _ _ w.heap.size 23 #[.int .i64 r1, .int .i64 r2, .int .i64 r3, .int .i64 r4, .int .i64 r5, .int .i64 r6, .int .i64 r7] (0, 0) _ rfl (set7 HR5.out _ _ _ _ _ _ _).1 Tryd.underlying23 rfl (by kernel_rfl)) rfl ⟨rfl, (set7 HR5.out _ _ _ _ _ _ _).2 _ _ HBE6.out (Nat.le_refl _)⟩
              · skip
                have HK : Hid (postbagref2_told.f k y mo dd hh mi se zz false = some (r1, r2, r3, r4, r5, r6, r7, r8)) := Lib.hid (by have h := HR.out; simpa [u5] using h)
                clear HR
                go_wp2_with fail
                refine (postbagref2_told.calls k y mo dd hh mi se zz false r1 r2 r3 r4 r5 r6 r7 r8 _ HK.out).mono ?_
                rintro e1 w5 ⟨rfl, hb5⟩
                have hr5 := (hb5.block w.heap.size (blk_lt HR4.out)).trans HR4.out
                have hbe5 := below_step HBE4.out hb5
                clear c0 c1 c2 c3 c4 c5 c6 hb5
                go_upto_region 16 with fail
                have hq := heap_alloc_new w5 (.cells #[.int .i64 r1, .int .i64 r2, .int .i64 r3, .int .i64 r4, .int .i64 r5, .int .i64 r6, .int .i64 r7] 23)
                have hr6 := (Below.heap_alloc w5 (.cells #[.int .i64 r1, .int .i64 r2, .int .i64 r3, .int .i64 r4, .int .i64 r5, .int .i64 r6, .int .i64 r7] 23) _ (blk_lt hr5)).trans hr5
                have hbe6 := below_alloc hbe5 (.cells #[.int .i64 r1, .int .i64 r2, .int .i64 r3, .int .i64 r4, .int .i64 r5, .int .i64 r6, .int .i64 r7] 23)
                generalize w5.alloc (.cells #[.int .i64 r1, .int .i64 r2, .int .i64 r3, .int .i64 r4, .int .i64 r5, .int .i64 r6, .int .i64 r7] 23) = w6 at *
                generalize w5.heap.size = nb at *
                clear hr5 hbe5
                obtain ⟨⟨d0, d1, d2, d3, d4, d5, d6⟩, _⟩ := cells7 hq
                obtain ⟨⟨c0, c1, c2, c3, c4, c5, c6⟩, fz⟩ := cells7 hr6
                have z0 := fz 0
                have z1 := fz 1
                have z2 := fz 2
                have z3 := fz 3
                have z4 := fz 4
                have z5 := fz 5
                have z6 := fz 6
                have HR5 := Lib.hid hr6
                have HBE6 := Lib.hid hbe6
                clear fz hr6 hq hbe6
                go_wp2
                exact bodyPost_ret (results_ct rfl _ _ w.heap.size 23 #[.int .i64 r1, .int .i64 r2, .int .i64 r3, .int .i64 r4, .int .i64 r5, .int .i64 r6, .int .i64 r7] (0, 0) _ rfl (set7 HR5.out _ _ _ _ _ _ _).1 Tryd.underlying23 rfl (by kernel_rfl)) rfl ⟨rfl, (set7 HR5.out _ _ _ _ _ _ _).2 _ _ HBE6.out (Nat.le_refl _)⟩
  · skip
    have e0 : (((s[0]'hb0).toNat : Int) == 32) = false := by rw [beq_eq_false_iff_ne, at_bt]; exact q0
    have H2x : Hid (postbagref2_day.f k (s.extract 0 2) (s.extract 2 11) = some (y, mo, dd, 0, 0, 0, 0, b)) := Lib.hid (by have h := H2.out; unfold refD at h; rw [if_neg q0] at h; exact h)
    clear q0 H2
    go_enter Tryd.func37, Tryd.ntmps37
    go_wp2_with fail
    refine (postbagref2_day.calls k (s.extract 0 2) (s.extract 2 11) y mo dd 0 0 0 0 b _ H2x.out).mono ?_
    rintro e1 w1 ⟨rfl, hb1⟩
    have hr1 : w1.heap[w.heap.size]? = some (.cells #[.int .i64 0, .int .i64 0, .int .i64 0, .int .i64 0, .int .i64 0, .int .i64 0, .int .i64 0] 23 (0, 0)) := (hb1.block w.heap.size (by simp)).trans (heap_alloc_new w _)
    have hbe1 : Below w.heap.size w w1 := below_step (by repeat (first | (with_reducible exact Below.refl _ _) | (with_reducible apply pw_below_drewN) | (with_reducible apply below_alloc))) hb1
    have HR1 := Lib.hid hr1
    have HBE1 := Lib.hid hbe1
    have hlt1 : w.heap.size < w1.heap.size := blk_lt hr1
    clear hb1 hr1 hbe1
    go_wp2_with fail
    have hmb := heap_alloc_new w1 (.cells #[.int .i64 y, .int .i64 mo, .int .i64 dd, .int .i64 0, .int .i64 0, .int .i64 0, .int .i64 0] 23)
    have hr2 := (Below.heap_alloc w1 (.cells #[.int .i64 y, .int .i64 mo, .int .i64 dd, .int .i64 0, .int .i64 0, .int .i64 0, .int .i64 0] 23) _ hlt1).trans HR1.out
    have hbe2 := below_alloc HBE1.out (.cells #[.int .i64 y, .int .i64 mo, .int .i64 dd, .int .i64 0, .int .i64 0, .int .i64 0, .int .i64 0] 23)
    generalize w1.alloc (.cells #[.int .i64 y, .int .i64 mo, .int .i64 dd, .int .i64 0, .int .i64 0, .int .i64 0, .int .i64 0] 23) = w2 at *
    generalize w1.heap.size = mb at *
    have HMB := Lib.hid hmb
    have HR2 := Lib.hid hr2
    have HBE2 := Lib.hid hbe2
    clear hmb hr2 hbe2 HR1 HBE1
    refine (postbagref2_count.calls k (s.extract 12 14) hh c _ H3.out).mono ?_
    rintro e1 w3 ⟨rfl, ⟨nd0, rfl⟩⟩
    go_wp2_with fail
    refine (postbagref2_count.calls k (s.extract 15 17) mi e _ H4.out).mono ?_
    rintro e1 w3 ⟨rfl, ⟨nd1, rfl⟩⟩
    go_wp2_with fail
    refine (postbagref2_count.calls k (s.extract 18 20) se f _ H5.out).mono ?_
    rintro e1 w3 ⟨rfl, ⟨nd2, rfl⟩⟩
    go_wp2_with fail
    refine (postbagref2_zoned.calls k (s.extract 21 s.size) zz g _ H6.out).mono ?_
    rintro e1 w3 ⟨rfl, ⟨nd9, rfl⟩⟩
    go_upto_region 11 with fail
    have hm3 := blk_drewN HMB.out (nd0 + nd1 + nd2 + nd9)
    have hr3 := blk_drewN HR2.out (nd0 + nd1 + nd2 + nd9)
    have hbe3 := pw_below_drewN HBE2.out (nd0 + nd1 + nd2 + nd9)
    generalize w2.drewN (nd0 + nd1 + nd2 + nd9) = W at *
    clear HMB HR2 HBE2
    obtain ⟨⟨c0, c1, c2, c3, c4, c5, c6⟩, fz⟩ := cells7 hm3
    have z3 := fz 3
    have z4 := fz 4
    have z5 := fz 5
    have z6 := fz 6
    have HM3 := Lib.hid hm3
    have HR3 := Lib.hid hr3
    have HBE3 := Lib.hid hbe3
    clear fz hm3 hr3 hbe3
    go_upto_region 15 with fail
    have hm4 := blk_put (cs' := #[.int .i64 y, .int .i64 mo, .int .i64 dd, .int .i64 hh, .int .i64 mi, .int .i64 se, .int .i64 zz]) (blk_put (cs' := #[.int .i64 y, .int .i64 mo, .int .i64 dd, .int .i64 hh, .int .i64 mi, .int .i64 se, .int .i64 0]) (blk_put (cs' := #[.int .i64 y, .int .i64 mo, .int .i64 dd, .int .i64 hh, .int .i64 mi, .int .i64 0, .int .i64 0]) (blk_put (cs' := #[.int .i64 y, .int .i64 mo, .int .i64 dd, .int .i64 hh, .int .i64 0, .int .i64 0, .int .i64 0]) HM3.out 3 (.int .i64 hh) rfl) 4 (.int .i64 mi) rfl) 5 (.int .i64 se) rfl) 6 (.int .i64 zz) rfl
    have hne : w.heap.size ≠ mb := Nat.ne_of_lt hlt1
    have hr4 := blk_far (p := ⟨mb, 6, none⟩) (blk_far (p := ⟨mb, 5, none⟩) (blk_far (p := ⟨mb, 4, none⟩) (blk_far (p := ⟨mb, 3, none⟩) HR3.out hne (.int .i64 hh)) hne (.int .i64 mi)) hne (.int .i64 se)) hne (.int .i64 zz)
    have hbe4 := (((HBE3.out.setCell (p := ⟨mb, 3, none⟩) (Nat.le_of_lt hlt1) (.int .i64 hh)).setCell (p := ⟨mb, 4, none⟩) (Nat.le_of_lt hlt1) (.int .i64 mi)).setCell (p := ⟨mb, 5, none⟩) (Nat.le_of_lt hlt1) (.int .i64 se)).setCell (p := ⟨mb, 6, none⟩) (Nat.le_of_lt hlt1) (.int .i64 zz)
    clear c0 c1 c2 c3 c4 c5 c6 z3 z4 z5 z6
    generalize (((W.setCell ⟨mb, 3, none⟩ (.int .i64 hh)).setCell ⟨mb, 4, none⟩ (.int .i64 mi)).setCell ⟨mb, 5, none⟩ (.int .i64 se)).setCell ⟨mb, 6, none⟩ (.int .i64 zz) = W2 at *
    obtain ⟨⟨c0, c1, c2, c3, c4, c5, c6⟩, _⟩ := cells7 hm4
    have HR4 := Lib.hid hr4
    have HBE4 := Lib.hid hbe4
    clear hm4 hr4 hbe4 HM3 HR3 HBE3 hne sl0 sl1 sl2 sl3 sl4 e0 e11 e14 e17 e20 g26
    cases b with
    | false =>
      have HK : Hid (postbagref2_told.f k y mo dd hh mi se zz false = some (r1, r2, r3, r4, r5, r6, r7, r8)) := Lib.hid (by have h := HR.out; simpa using h)
      clear HR
      go_wp2_with fail
      refine (postbagref2_told.calls k y mo dd hh mi se zz false r1 r2 r3 r4 r5 r6 r7 r8 _ HK.out).mono ?_
      rintro e1 w5 ⟨rfl, hb5⟩
      have hr5 := (hb5.block w.heap.size (blk_lt HR4.out)).trans HR4.out
      have hbe5 := below_step HBE4.out hb5
      clear c0 c1 c2 c3 c4 c5 c6 hb5
      go_upto_region 16 with fail
      have hq := heap_alloc_new w5 (.cells #[.int .i64 r1, .int .i64 r2, .int .i64 r3, .int .i64 r4, .int .i64 r5, .int .i64 r6, .int .i64 r7] 23)
      have hr6 := (Below.heap_alloc w5 (.cells #[.int .i64 r1, .int .i64 r2, .int .i64 r3, .int .i64 r4, .int .i64 r5, .int .i64 r6, .int .i64 r7] 23) _ (blk_lt hr5)).trans hr5
      have hbe6 := below_alloc hbe5 (.cells #[.int .i64 r1, .int .i64 r2, .int .i64 r3, .int .i64 r4, .int .i64 r5, .int .i64 r6, .int .i64 r7] 23)
      generalize w5.alloc (.cells #[.int .i64 r1, .int .i64 r2, .int .i64 r3, .int .i64 r4, .int .i64 r5, .int .i64 r6, .int .i64 r7] 23) = w6 at *
      generalize w5.heap.size = nb at *
      clear hr5 hbe5
      obtain ⟨⟨d0, d1, d2, d3, d4, d5, d6⟩, _⟩ := cells7 hq
      obtain ⟨⟨c0, c1, c2, c3, c4, c5, c6⟩, fz⟩ := cells7 hr6
      have z0 := fz 0
      have z1 := fz 1
      have z2 := fz 2
      have z3 := fz 3
      have z4 := fz 4
      have z5 := fz 5
      have z6 := fz 6
      have HR5 := Lib.hid hr6
      have HBE6 := Lib.hid hbe6
      clear fz hr6 hq hbe6
      go_wp2
      exact bodyPost_ret (results_ct rfl _ _ w.heap.size 23 #[.int .i64 r1, .int .i64 r2, .int .i64 r3, .int .i64 r4, .int .i64 r5, .int .i64 r6, .int .i64 r7] (0, 0) _ rfl (set7 HR5.out _ _ _ _ _ _ _).1 Tryd.underlying23 rfl (by kernel_rfl)) rfl ⟨rfl, (set7 HR5.out _ _ _ _ _ _ _).2 _ _ HBE6.out (Nat.le_refl _)⟩
    | true =>
      cases c with
      | false =>
        have HK : Hid (postbagref2_told.f k y mo dd hh mi se zz false = some (r1, r2, r3, r4, r5, r6, r7, r8)) := Lib.hid (by have h := HR.out; simpa using h)
        clear HR
        go_wp2_with fail
        refine (postbagref2_told.calls k y mo dd hh mi se zz false r1 r2 r3 r4 r5 r6 r7 r8 _ HK.out).mono ?_
        rintro e1 w5 ⟨rfl, hb5⟩
        have hr5 := (hb5.block w.heap.size (blk_lt HR4.out)).trans HR4.out
        have hbe5 := below_step HBE4.out hb5
        clear c0 c1 c2 c3 c4 c5 c6 hb5
        go_upto_region 16 with fail
        have hq := heap_alloc_new w5 (.cells #[.int .i64 r1, .int .i64 r2, .int .i64 r3, .int .i64 r4, .int .i64 r5, .int .i64 r6, .int .i64 r7] 23)
        have hr6 := (Below.heap_alloc w5 (.cells #[.int .i64 r1, .int .i64 r2, .int .i64 r3, .int .i64 r4, .int .i64 r5, .int .i64 r6, .int .i64 r7] 23) _ (blk_lt hr5)).trans hr5
        have hbe6 := below_alloc hbe5 (.cells #[.int .i64 r1, .int .i64 r2, .int .i64 r3, .int .i64 r4, .int .i64 r5, .int .i64 r6, .int .i64 r7] 23)
        generalize w5.alloc (.cells #[.int .i64 r1, .int .i64 r2, .int .i64 r3, .int .i64 r4, .int .i64 r5, .int .i64 r6, .int .i64 r7] 23) = w6 at *
        generalize w5.heap.size = nb at *
        clear hr5 hbe5
        obtain ⟨⟨d0, d1, d2, d3, d4, d5, d6⟩, _⟩ := cells7 hq
        obtain ⟨⟨c0, c1, c2, c3, c4, c5, c6⟩, fz⟩ := cells7 hr6
        have z0 := fz 0
        have z1 := fz 1
        have z2 := fz 2
        have z3 := fz 3
        have z4 := fz 4
        have z5 := fz 5
        have z6 := fz 6
        have HR5 := Lib.hid hr6
        have HBE6 := Lib.hid hbe6
        clear fz hr6 hq hbe6
        go_wp2
        exact bodyPost_ret (results_ct rfl _ _ w.heap.size 23 #[.int .i64 r1, .int .i64 r2, .int .i64 r3, .int .i64 r4, .int .i64 r5, .int .i64 r6, .int .i64 r7] (0, 0) _ rfl (set7 HR5.out _ _ _ _ _ _ _).1 Tryd.underlying23 rfl (by kernel_rfl)) rfl ⟨rfl, (set7 HR5.out _ _ _ _ _ _ _).2 _ _ HBE6.out (Nat.le_refl _)⟩
      | true =>
        cases e with
        | false =>
          have HK : Hid (postbagref2_told.f k y mo dd hh mi se zz false = some (r1, r2, r3, r4, r5, r6, r7, r8)) := Lib.hid (by have h := HR.out; simpa using h)
          clear HR
          go_wp2_with fail
          refine (postbagref2_told.calls k y mo dd hh mi se zz false r1 r2 r3 r4 r5 r6 r7 r8 _ HK.out).mono ?_
          rintro e1 w5 ⟨rfl, hb5⟩
          have hr5 := (hb5.block w.heap.size (blk_lt HR4.out)).trans HR4.out
          have hbe5 := below_step HBE4.out hb5
          clear c0 c1 c2 c3 c4 c5 c6 hb5
          go_upto_region 16 with fail
          have hq := heap_alloc_new w5 (.cells #[.int .i64 r1, .int .i64 r2, .int .i64 r3, .int .i64 r4, .int .i64 r5, .int .i64 r6, .int .i64 r7] 23)
          have hr6 := (Below.heap_alloc w5 (.cells #[.int .i64 r1, .int .i64 r2, .int .i64 r3, .int .i64 r4, .int .i64 r5, .int .i64 r6, .int .i64 r7] 23) _ (blk_lt hr5)).trans hr5
          have hbe6 := below_alloc hbe5 (.cells #[.int .i64 r1, .int .i64 r2, .int .i64 r3, .int .i64 r4, .int .i64 r5, .int .i64 r6, .int .i64 r7] 23)
          generalize w5.alloc (.cells #[.int .i64 r1, .int .i64 r2, .int .i64 r3, .int .i64 r4, .int .i64 r5, .int .i64 r6, .int .i64 r7] 23) = w6 at *
          generalize w5.heap.size = nb at *
          clear hr5 hbe5
          obtain ⟨⟨d0, d1, d2, d3, d4, d5, d6⟩, _⟩ := cells7 hq
          obtain ⟨⟨c0, c1, c2, c3, c4, c5, c6⟩, fz⟩ := cells7 hr6
          have z0 := fz 0
          have z1 := fz 1
          have z2 := fz 2
          have z3 := fz 3
          have z4 := fz 4
          have z5 := fz 5
          have z6 := fz 6
          have HR5 := Lib.hid hr6
          have HBE6 := Lib.hid hbe6
          clear fz hr6 hq hbe6
          go_wp2
          exact bodyPost_ret (results_ct rfl _ _ w.heap.size 23 #[.int .i64 r1, .int .i64 r2, .int .i64 r3, .int .i64 r4, .int .i64 r5, .int .i64 r6, .int .i64 r7] (0, 0) _ rfl (set7 HR5.out _ _ _ _ _ _ _).1 Tryd.underlying23 rfl (by kernel_rfl)) rfl ⟨rfl, (set7 HR5.out _ _ _ _ _ _ _).2 _ _ HBE6.out (Nat.le_refl _)⟩
        | true =>
          cases f with
          | false =>
            have HK : Hid (postbagref2_told.f k y mo dd hh mi se zz false = some (r1, r2, r3, r4, r5, r6, r7, r8)) := Lib.hid (by have h := HR.out; simpa using h)
            clear HR
            go_wp2_with fail
            refine (postbagref2_told.calls k y mo dd hh mi se zz false r1 r2 r3 r4 r5 r6 r7 r8 _ HK.out).mono ?_
            rintro e1 w5 ⟨rfl, hb5⟩
            have hr5 := (hb5.block w.heap.size (blk_lt HR4.out)).trans HR4.out
            have hbe5 := below_step HBE4.out hb5
            clear c0 c1 c2 c3 c4 c5 c6 hb5
            go_upto_region 16 with fail
            have hq := heap_alloc_new w5 (.cells #[.int .i64 r1, .int .i64 r2, .int .i64 r3, .int .i64 r4, .int .i64 r5, .int .i64 r6, .int .i64 r7] 23)
            have hr6 := (Below.heap_alloc w5 (.cells #[.int .i64 r1, .int .i64 r2, .int .i64 r3, .int .i64 r4, .int .i64 r5, .int .i64 r6, .int .i64 r7] 23) _ (blk_lt hr5)).trans hr5
            have hbe6 := below_alloc hbe5 (.cells #[.int .i64 r1, .int .i64 r2, .int .i64 r3, .int .i64 r4, .int .i64 r5, .int .i64 r6, .int .i64 r7] 23)
            generalize w5.alloc (.cells #[.int .i64 r1, .int .i64 r2, .int .i64 r3, .int .i64 r4, .int .i64 r5, .int .i64 r6, .int .i64 r7] 23) = w6 at *
            generalize w5.heap.size = nb at *
            clear hr5 hbe5
            obtain ⟨⟨d0, d1, d2, d3, d4, d5, d6⟩, _⟩ := cells7 hq
            obtain ⟨⟨c0, c1, c2, c3, c4, c5, c6⟩, fz⟩ := cells7 hr6
            have z0 := fz 0
            have z1 := fz 1
            have z2 := fz 2
            have z3 := fz 3
            have z4 := fz 4
            have z5 := fz 5
            have z6 := fz 6
            have HR5 := Lib.hid hr6
            have HBE6 := Lib.hid hbe6
            clear fz hr6 hq hbe6
            go_wp2
            exact bodyPost_ret (results_ct rfl _ _ w.heap.size 23 #[.int .i64 r1, .int .i64 r2, .int .i64 r3, .int .i64 r4, .int .i64 r5, .int .i64 r6, .int .i64 r7] (0, 0) _ rfl (set7 HR5.out _ _ _ _ _ _ _).1 Tryd.underlying23 rfl (by kernel_rfl)) rfl ⟨rfl, (set7 HR5.out _ _ _ _ _ _ _).2 _ _ HBE6.out (Nat.le_refl _)⟩
          | true =>
            cases g with
            | false =>
              have HK : Hid (postbagref2_told.f k y mo dd hh mi se zz false = some (r1, r2, r3, r4, r5, r6, r7, r8)) := Lib.hid (by have h := HR.out; simpa using h)
              clear HR
              go_wp2_with fail
              refine (postbagref2_told.calls k y mo dd hh mi se zz false r1 r2 r3 r4 r5 r6 r7 r8 _ HK.out).mono ?_
              rintro e1 w5 ⟨rfl, hb5⟩
              have hr5 := (hb5.block w.heap.size (blk_lt HR4.out)).trans HR4.out
              have hbe5 := below_step HBE4.out hb5
              clear c0 c1 c2 c3 c4 c5 c6 hb5
              go_upto_region 16 with fail
              have hq := heap_alloc_new w5 (.cells #[.int .i64 r1, .int .i64 r2, .int .i64 r3, .int .i64 r4, .int .i64 r5, .int .i64 r6, .int .i64 r7] 23)
              have hr6 := (Below.heap_alloc w5 (.cells #[.int .i64 r1, .int .i64 r2, .int .i64 r3, .int .i64 r4, .int .i64 r5, .int .i64 r6, .int .i64 r7] 23) _ (blk_lt hr5)).trans hr5
              have hbe6 := below_alloc hbe5 (.cells #[.int .i64 r1, .int .i64 r2, .int .i64 r3, .int .i64 r4, .int .i64 r5, .int .i64 r6, .int .i64 r7] 23)
              generalize w5.alloc (.cells #[.int .i64 r1, .int .i64 r2, .int .i64 r3, .int .i64 r4, .int .i64 r5, .int .i64 r6, .int .i64 r7] 23) = w6 at *
              generalize w5.heap.size = nb at *
              clear hr5 hbe5
              obtain ⟨⟨d0, d1, d2, d3, d4, d5, d6⟩, _⟩ := cells7 hq
              obtain ⟨⟨c0, c1, c2, c3, c4, c5, c6⟩, fz⟩ := cells7 hr6
              have z0 := fz 0
              have z1 := fz 1
              have z2 := fz 2
              have z3 := fz 3
              have z4 := fz 4
              have z5 := fz 5
              have z6 := fz 6
              have HR5 := Lib.hid hr6
              have HBE6 := Lib.hid hbe6
              clear fz hr6 hq hbe6
              go_wp2
              exact bodyPost_ret (results_ct rfl _ _ w.heap.size 23 #[.int .i64 r1, .int .i64 r2, .int .i64 r3, .int .i64 r4, .int .i64 r5, .int .i64 r6, .int .i64 r7] (0, 0) _ rfl (set7 HR5.out _ _ _ _ _ _ _).1 Tryd.underlying23 rfl (by kernel_rfl)) rfl ⟨rfl, (set7 HR5.out _ _ _ _ _ _ _).2 _ _ HBE6.out (Nat.le_refl _)⟩
            | true =>
              by_cases u5 : hh ≤ 23
              · skip
                by_cases u6 : mi ≤ 59
                · skip
                  by_cases u7 : se ≤ 59
                  · skip
                    have HK : Hid (postbagref2_told.f k y mo dd hh mi se zz true = some (r1, r2, r3, r4, r5, r6, r7, r8)) := Lib.hid (by have h := HR.out; simpa [u5, u6, u7] using h)
                    clear HR
                    go_wp2_with fail
                    refine (postbagref2_told.calls k y mo dd hh mi se zz true r1 r2 r3 r4 r5 r6 r7 r8 _ HK.out).mono ?_
                    rintro e1 w5 ⟨rfl, hb5⟩
                    have hr5 := (hb5.block w.heap.size (blk_lt HR4.out)).trans HR4.out
                    have hbe5 := below_step HBE4.out hb5
                    clear c0 c1 c2 c3 c4 c5 c6 hb5
                    go_upto_region 16 with fail
                    have hq := heap_alloc_new w5 (.cells #[.int .i64 r1, .int .i64 r2, .int .i64 r3, .int .i64 r4, .int .i64 r5, .int .i64 r6, .int .i64 r7] 23)
                    have hr6 := (Below.heap_alloc w5 (.cells #[.int .i64 r1, .int .i64 r2, .int .i64 r3, .int .i64 r4, .int .i64 r5, .int .i64 r6, .int .i64 r7] 23) _ (blk_lt hr5)).trans hr5
                    have hbe6 := below_alloc hbe5 (.cells #[.int .i64 r1, .int .i64 r2, .int .i64 r3, .int .i64 r4, .int .i64 r5, .int .i64 r6, .int .i64 r7] 23)
                    generalize w5.alloc (.cells #[.int .i64 r1, .int .i64 r2, .int .i64 r3, .int .i64 r4, .int .i64 r5, .int .i64 r6, .int .i64 r7] 23) = w6 at *
                    generalize w5.heap.size = nb at *
                    clear hr5 hbe5
                    obtain ⟨⟨d0, d1, d2, d3, d4, d5, d6⟩, _⟩ := cells7 hq
                    obtain ⟨⟨c0, c1, c2, c3, c4, c5, c6⟩, fz⟩ := cells7 hr6
                    have z0 := fz 0
                    have z1 := fz 1
                    have z2 := fz 2
                    have z3 := fz 3
                    have z4 := fz 4
                    have z5 := fz 5
                    have z6 := fz 6
                    have HR5 := Lib.hid hr6
                    have HBE6 := Lib.hid hbe6
                    clear fz hr6 hq hbe6
                    go_wp2
                    exact bodyPost_ret (results_ct rfl _ _ w.heap.size 23 #[.int .i64 r1, .int .i64 r2, .int .i64 r3, .int .i64 r4, .int .i64 r5, .int .i64 r6, .int .i64 r7] (0, 0) _ rfl (set7 HR5.out _ _ _ _ _ _ _).1 Tryd.underlying23 rfl (by kernel_rfl)) rfl ⟨rfl, (set7 HR5.out _ _ _ _ _ _ _).2 _ _ HBE6.out (Nat.le_refl _)⟩
                  · skip
                    have HK : Hid (postbagref2_told.f k y mo dd hh mi se zz false = some (r1, r2, r3, r4, r5, r6, r7, r8)) := Lib.hid (by have h := HR.out; simpa [u5, u6, u7] using h)
                    clear HR
                    go_wp2_with fail
                    refine (postbagref2_told.calls k y mo dd hh mi se zz false r1 r2 r3 r4 r5 r6 r7 r8 _ HK.out).mono ?_
                    rintro e1 w5 ⟨rfl, hb5⟩
                    have hr5 := (hb5.block w.heap.size (blk_lt HR4.out)).trans HR4.out
                    have hbe5 := below_step HBE4.out hb5
                    clear c0 c1 c2 c3 c4 c5 c6 hb5
                    go_upto_region 16 with fail
                    have hq := heap_alloc_new w5 (.cells #[.int .i64 r1, .int .i64 r2, .int .i64 r3, .int .i64 r4, .int .i64 r5, .int .i64 r6, .int .i64 r7] 23)
                    have hr6 := (Below.heap_alloc w5 (.cells #[.int .i64 r1, .int .i64 r2, .int .i64 r3, .int .i64 r4, .int .i64 r5, .int .i64 r6, .int .i64 r7] 23) _ (blk_lt hr5)).trans hr5
                    have hbe6 := below_alloc hbe5 (.cells #[.int .i64 r1, .int .i64 r2, .int .i64 r3, .int .i64 r4, .int .i64 r5, .int .i64 r6, .int .i64 r7] 23)
                    generalize w5.alloc (.cells #[.int .i64 r1, .int .i64 r2, .int .i64 r3, .int .i64 r4, .int .i64 r5, .int .i64 r6, .int .i64 r7] 23) = w6 at *
                    generalize w5.heap.size = nb at *
                    clear hr5 hbe5
                    obtain ⟨⟨d0, d1, d2, d3, d4, d5, d6⟩, _⟩ := cells7 hq
                    obtain ⟨⟨c0, c1, c2, c3, c4, c5, c6⟩, fz⟩ := cells7 hr6
                    have z0 := fz 0
                    have z1 := fz 1
                    have z2 := fz 2
                    have z3 := fz 3
                    have z4 := fz 4
                    have z5 := fz 5
                    have z6 := fz 6
                    have HR5 := Lib.hid hr6
                    have HBE6 := Lib.hid hbe6
                    clear fz hr6 hq hbe6
                    go_wp2
                    exact bodyPost_ret (results_ct rfl _ _ w.heap.size 23 #[.int .i64 r1, .int .i64 r2, .int .i64 r3, .int .i64 r4, .int .i64 r5, .int .i64 r6, .int .i64 r7] (0, 0) _ rfl (set7 HR5.out _ _ _ _ _ _ _).1 Tryd.underlying23 rfl (by kernel_rfl)) rfl ⟨rfl, (set7 HR5.out _ _ _ _ _ _ _).2 _ _ HBE6.out (Nat.le_refl _)⟩
                · skip
                  have HK : Hid (postbagref2_told.f k y mo dd hh mi se zz false = some (r1, r2, r3, r4, r5, r6, r7, r8)) := Lib.hid (by have h := HR.out; simpa [u5, u6] using h)
                  clear HR
                  go_wp2_with fail
                  refine (postbagref2_told.calls k y mo dd hh mi se zz false r1 r2 r3 r4 r5 r6 r7 r8 _ HK.out).mono ?_
                  rintro e1 w5 ⟨rfl, hb5⟩
                  have hr5 := (hb5.block w.heap.size (blk_lt HR4.out)).trans HR4.out
                  have hbe5 := below_step HBE4.out hb5
                  clear c0 c1 c2 c3 c4 c5 c6 hb5
                  go_upto_region 16 with fail
                  have hq := heap_alloc_new w5 (.cells #[.int .i64 r1, .int .i64 r2, .int .i64 r3, .int .i64 r4, .int .i64 r5, .int .i64 r6, .int .i64 r7] 23)
                  have hr6 := (Below.heap_alloc w5 (.cells #[.int .i64 r1, .int .i64 r2, .int .i64 r3, .int .i64 r4, .int .i64 r5, .int .i64 r6, .int .i64 r7] 23) _ (blk_lt hr5)).trans hr5
                  have hbe6 := below_alloc hbe5 (.cells #[.int .i64 r1, .int .i64 r2, .int .i64 r3, .int .i64 r4, .int .i64 r5, .int .i64 r6, .int .i64 r7] 23)
                  generalize w5.alloc (.cells #[.int .i64 r1, .int .i64 r2, .int .i64 r3, .int .i64 r4, .int .i64 r5, .int .i64 r6, .int .i64 r7] 23) = w6 at *
                  generalize w5.heap.size = nb at *
                  clear hr5 hbe5
                  obtain ⟨⟨d0, d1, d2, d3, d4, d5, d6⟩, _⟩ := cells7 hq
                  obtain ⟨⟨c0, c1, c2, c3, c4, c5, c6⟩, fz⟩ := cells7 hr6
                  have z0 := fz 0
                  have z1 := fz 1
                  have z2 := fz 2
                  have z3 := fz 3
                  have z4 := fz 4
                  have z5 := fz 5
                  have z6 := fz 6
                  have HR5 := Lib.hid hr6
                  have HBE6 := Lib.hid hbe6
                  clear fz hr6 hq hbe6
                  go_wp2
                  exact bodyPost_ret (results_ct rfl _ _ w.heap.size 23 #[.int .i64 r1, .int .i64 r2, .int .i64 r3, .int .i64 r4, .int .i64 r5, .int .i64 r6, .int .i64 r7] (0, 0) _ rfl (set7 HR5.out _ _ _ _ _ _ _).1 Tryd.underlying23 rfl (by kernel_rfl)) rfl ⟨rfl, (set7 HR5.out _ _ _ _ _ _ _).2 _ _ HBE6.out (Nat.le_refl _)⟩
              · skip
                have HK : Hid (postbagref2_told.f k y mo dd hh mi se zz false = some (r1, r2, r3, r4, r5, r6, r7, r8)) := Lib.hid (by have h := HR.out; simpa [u5] using h)
                clear HR
                go_wp2_with fail
                refine (postbagref2_told.calls k y mo dd hh mi se zz false r1 r2 r3 r4 r5 r6 r7 r8 _ HK.out).mono ?_
                rintro e1 w5 ⟨rfl, hb5⟩
                have hr5 := (hb5.block w.heap.size (blk_lt HR4.out)).trans HR4.out
                have hbe5 := below_step HBE4.out hb5
                clear c0 c1 c2 c3 c4 c5 c6 hb5
                go_upto_region 16 with fail
                have hq := heap_alloc_new w5 (.cells #[.int .i64 r1, .int .i64 r2, .int .i64 r3, .int .i64 r4, .int .i64 r5, .int .i64 r6, .int .i64 r7] 23)
                have hr6 := (Below.heap_alloc w5 (.cells #[.int .i64 r1, .int .i64 r2, .int .i64 r3, .int .i64 r4, .int .i64 r5, .int .i64 r6, .int .i64 r7] 23) _ (blk_lt hr5)).trans hr5
                have hbe6 := below_alloc hbe5 (.cells #[.int .i64 r1, .int .i64 r2, .int .i64 r3, .int .i64 r4, .int .i64 r5, .int .i64 r6, .int .i64 r7] 23)
                generalize w5.alloc (.cells #[.int .i64 r1, .int .i64 r2, .int .i64 r3, .int .i64 r4, .int .i64 r5, .int .i64 r6, .int .i64 r7] 23) = w6 at *
                generalize w5.heap.size = nb at *
                clear hr5 hbe5
                obtain ⟨⟨d0, d1, d2, d3, d4, d5, d6⟩, _⟩ := cells7 hq
                obtain ⟨⟨c0, c1, c2, c3, c4, c5, c6⟩, fz⟩ := cells7 hr6
                have z0 := fz 0
                have z1 := fz 1
                have z2 := fz 2
                have z3 := fz 3
                have z4 := fz 4
                have z5 := fz 5
                have z6 := fz 6
                have HR5 := Lib.hid hr6
                have HBE6 := Lib.hid hbe6
                clear fz hr6 hq hbe6
                go_wp2
                exact bodyPost_ret (results_ct rfl _ _ w.heap.size 23 #[.int .i64 r1, .int .i64 r2, .int .i64 r3, .int .i64 r4, .int .i64 r5, .int .i64 r6, .int .i64 r7] (0, 0) _ rfl (set7 HR5.out _ _ _ _ _ _ _).1 Tryd.underlying23 rfl (by kernel_rfl)) rfl ⟨rfl, (set7 HR5.out _ _ _ _ _ _ _).2 _ _ HBE6.out (Nat.le_refl _)⟩
end Go.Proofs.YtjlchnmpebdggaaDoor.Mo
end
section
namespace Go.Proofs.YtjlchnmpebdggaaDoor.Mo
open Go.RowKit Go.Proofs.YtjlchnmpebdggaaDoorW.PrintWords
def zonedP (s : ByteArray) : Int × Bool := if (zoneT s).2 = true then ((zoneT s).1, true) else (0, false)
theorem zoned_f (k : Nat) (hk : 40 ≤ k) (s : ByteArray) : postbagref2_zoned.f k s = some (zonedP s) := by
  obtain ⟨k, rfl⟩ : ∃ q, k = q + 2 := ⟨k - 2, by omega⟩
  unfold postbagref2_zoned.f zonedP zoneT
  by_cases h5 : s.size = 5
  · have e1 : (s.extract 1 3).size = 2 := by rw [ByteArray.size_extract]; omega
    have e2 : (s.extract 3 5).size = 2 := by rw [ByteArray.size_extract]; omega
    rw [if_pos (by omega), if_pos (by omega)]
    have go : (bt s 0 = 43 ∨ bt s 0 = 45) → postbagref2_zoned.j0 (k + 2) s false = some (if ((belowP (s.extract 1 3) 23).2 && (belowP (s.extract 3 5) 59).2) = true then ((if bt s 0 = 45 then -(60 * (belowP (s.extract 1 3) 23).1 + (belowP (s.extract 3 5) 59).1) else 60 * (belowP (s.extract 1 3) 23).1 + (belowP (s.extract 3 5) 59).1), true) else (0, false)) := by
      intro _
      simp only [postbagref2_zoned.j0]
      rw [if_neg (by decide), if_pos (by omega), if_pos (by omega), h5, count_f (k + 1) (by omega) _ (by omega), Option.bind_some, count_f (k + 1) (by omega) _ (by omega), Option.bind_some]
      unfold belowP
      rw [e1, e2]
      have r1 := digitsP_range (s.extract 1 3)
      have r2 := digitsP_range (s.extract 3 5)
      generalize digitsP (s.extract 1 3) = A at *
      generalize digitsP (s.extract 3 5) = B at *
      have w1 : wrap64 (wrap64 (-60 * A.1) - B.1) = -(60 * A.1 + B.1) := by rw [w64 (-60 * A.1) (by omega) (by omega), w64 _ (by omega) (by omega)]; omega
      have w2 : wrap64 (wrap64 (60 * A.1) + B.1) = 60 * A.1 + B.1 := by rw [w64 (60 * A.1) (by omega) (by omega), w64 _ (by omega) (by omega)]
      simp only [postbagref2_zoned.j1]
      rw [w1, w2]
      cases ha : A.2 with
      | false => rw [if_neg (by decide), if_pos trivial, if_neg (by simp)]
      | true =>
        rw [if_pos rfl]
        cases hb : B.2 with
        | false => rw [if_neg (by decide), if_pos trivial, if_neg (by simp)]
        | true =>
          rw [if_pos rfl]
          by_cases c1 : A.1 > 23
          · rw [if_pos c1, if_pos trivial, if_neg (by simp; omega)]
          · rw [if_neg c1]
            by_cases c2 : B.1 > 59
            · rw [if_pos (decide_eq_true c2), if_neg (by simp; omega)]
            · have hT : (true && (decide True && decide (A.1 ≤ 23)) && (true && (decide True && decide (B.1 ≤ 59)))) = true := by simp; omega
              rw [decide_eq_false c2, if_neg (by decide), if_pos (by omega), if_pos hT]
              by_cases h45 : bt s 0 = 45
              · rw [if_pos h45, if_pos h45]
              · rw [if_neg h45, if_neg h45]
    by_cases h43 : bt s 0 = 43
    · rw [if_pos h43, go (.inl h43)]
      rw [if_pos (show s.size = 5 ∧ (bt s 0 = 43 ∨ bt s 0 = 45) from ⟨h5, .inl h43⟩)]
    · rw [if_neg h43]
      by_cases h45 : bt s 0 = 45
      · rw [show (bt s 0 != 45) = false from by rw [bne_eq_false_iff_eq]; exact h45, go (.inr h45)]
        rw [if_pos (show s.size = 5 ∧ (bt s 0 = 43 ∨ bt s 0 = 45) from ⟨h5, .inr h45⟩)]
      · rw [show (bt s 0 != 45) = true from by rw [bne_iff_ne]; exact h45]
        simp only [postbagref2_zoned.j0]
        rw [if_pos trivial, if_neg (show ¬ (s.size = 5 ∧ (bt s 0 = 43 ∨ bt s 0 = 45)) from fun h => by rcases h.2 with h | h <;> contradiction)]
        rfl
  · rw [if_neg (by omega)]
    simp only [postbagref2_zoned.j0]
    rw [if_pos trivial, if_neg (show ¬ (s.size = 5 ∧ (bt s 0 = 43 ∨ bt s 0 = 45)) from fun h => h5 h.1)]
    rfl
theorem refD_dayT (s : ByteArray) (h : s.size = 26) : dayT s = refD s := by
  unfold dayT refD
  have e : bt (s.extract 0 2) 0 = bt s 0 := by
    have h2 : (s.extract 0 2).size = 2 := by rw [ByteArray.size_extract]; omega
    have q1 := at_bt (s.extract 0 2) 0 (by omega)
    have q2 := at_bt s 0 (by omega)
    rw [show ((0 : Nat) : Int) = 0 from rfl] at q1 q2
    rw [← q1, ← q2, ByteArray.getElem_extract]
  have e2 : (s.extract 0 2).extract 1 2 = s.extract 1 2 := by
    rw [ByteArray.extract_extract]
    rfl
  rw [e, e2]
theorem toldP_not {y m d h mi s z : Int} {ok : Bool} (h0 : ok = false) : toldP y m d h mi s z ok = (0, 0, 0, 0, 0, 0, 0, 20) := by rw [h0]; rfl
def postbagref2_ReadInternal.f (s : ByteArray) : Option (Int × Int × Int × Int × Int × Int × Int × Int) := moment_ReadInternal.f s
set_option maxHeartbeats 2000000 in
theorem postbagref2_ReadInternal.calls (a0 : ByteArray) (r1 r2 r3 r4 r5 r6 r7 r8 : Int) (w : World) (h : postbagref2_ReadInternal.f a0 = some (r1, r2, r3, r4, r5, r6, r7, r8)) :
    Calls Tryd.prog 37 #[.string a0] w fun e w' => e = .returned (.tuple #[.agg #[.int .i64 r1, .int .i64 r2, .int .i64 r3, .int .i64 r4, .int .i64 r5, .int .i64 r6, .int .i64 r7], .int .i64 r8]) ∧ Below w.heap.size w w' := by
  unfold postbagref2_ReadInternal.f moment_ReadInternal.f at h
  by_cases hf : formI a0
  · rw [if_pos hf, read_f] at h
    have hsz := hf.1
    have hdt := refD_dayT a0 hsz
    have z1 : (refD a0).size ≤ 4 := by unfold refD; split <;> (rw [ByteArray.size_extract]; omega)
    have z2 : (a0.extract 12 14).size = 2 := by rw [ByteArray.size_extract]; omega
    have z3 : (a0.extract 15 17).size = 2 := by rw [ByteArray.size_extract]; omega
    have z4 : (a0.extract 18 20).size = 2 := by rw [ByteArray.size_extract]; omega
    have hday := day_ref 100 (by omega) (refD a0) (a0.extract 2 11) z1
    unfold riOk riY riH riM riS riZ riD at h
    rw [hdt] at h
    unfold belowP at h
    rw [z2, z3, z4] at h
    unfold dayP at h
    generalize digitsP (refD a0) = D at *
    have hc3 := count_f 100 (by omega) (a0.extract 12 14) (by omega)
    have hc4 := count_f 100 (by omega) (a0.extract 15 17) (by omega)
    have hc5 := count_f 100 (by omega) (a0.extract 18 20) (by omega)
    have hz := zoned_f 100 (by omega) (a0.extract 21 26)
    unfold zonedP at hz
    generalize digitsP (a0.extract 12 14) = A at *
    generalize digitsP (a0.extract 15 17) = B at *
    generalize digitsP (a0.extract 18 20) = C at *
    generalize zoneT (a0.extract 21 26) = Z at *
    generalize hSx : a0.extract 2 11 = S at *
    by_cases hS : S.size = 9 ∧ bt S 0 = 45 ∧ bt S 4 = 45
    · rw [if_pos hS] at hday h
      generalize hp : placeP (S.extract 1 4) monthL 0 = p at *
      generalize digitsP (S.extract 5 9) = Y at *
      by_cases hZ : Z.2 = true
      · rw [if_pos hZ] at hz
        refine rri_yes 100 a0 Y.1 (p + 1) D.1 A.1 B.1 C.1 Z.1 (D.2 && (Y.2 && decide (0 ≤ p))) A.2 B.2 C.2 true r1 r2 r3 r4 r5 r6 r7 r8 w hf (by rw [hSx]; exact hday) (by rw [hc3]) (by rw [hc4]) (by rw [hc5]) (by rw [hz]) ?_
        rw [told_f 100 (by omega), ← h, hZ]
        have e : (D.2 && (Y.2 && decide (0 ≤ p)) && (A.2 && (B.2 && (C.2 && (true && (decide (A.1 ≤ 23) && (decide (B.1 ≤ 59) && decide (C.1 ≤ 59)))))))) = (D.2 && ((Y.2 && decide (0 ≤ p)) && ((A.2 && (decide (2 = 2) && decide (A.1 ≤ 23))) && ((B.2 && (decide (2 = 2) && decide (B.1 ≤ 59))) && ((C.2 && (decide (2 = 2) && decide (C.1 ≤ 59))) && true))))) := by
          generalize D.2 = d
          generalize (Y.2 && decide (0 ≤ p)) = y
          generalize A.2 = a
          generalize B.2 = b
          generalize C.2 = c
          generalize decide (A.1 ≤ 23) = a2
          generalize decide (B.1 ≤ 59) = b2
          generalize decide (C.1 ≤ 59) = c2
          cases d <;> cases y <;> cases a <;> cases b <;> cases c <;> cases a2 <;> cases b2 <;> cases c2 <;> rfl
        rw [e]
      · rw [if_neg hZ] at hz
        have hZ2 : Z.2 = false := by simpa using hZ
        refine rri_yes 100 a0 Y.1 (p + 1) D.1 A.1 B.1 C.1 0 (D.2 && (Y.2 && decide (0 ≤ p))) A.2 B.2 C.2 false r1 r2 r3 r4 r5 r6 r7 r8 w hf (by rw [hSx]; exact hday) (by rw [hc3]) (by rw [hc4]) (by rw [hc5]) (by rw [hz]) ?_
        rw [told_f 100 (by omega), ← h, toldP_not (by simp), toldP_not (by rw [hZ2]; simp)]
    · rw [if_neg hS] at hday h
      refine rri_yes 100 a0 0 0 0 A.1 B.1 C.1 (if Z.2 = true then (Z.1, true) else (0, false)).1 false A.2 B.2 C.2 (if Z.2 = true then (Z.1, true) else (0, false)).2 r1 r2 r3 r4 r5 r6 r7 r8 w hf (by rw [hSx]; exact hday) (by rw [hc3]) (by rw [hc4]) (by rw [hc5]) hz ?_
      rw [told_f 100 (by omega), ← h, toldP_not (by simp), toldP_not (by simp)]
  · rw [if_neg hf] at h
    have h := Option.some.inj h
    simp only [Prod.mk.injEq] at h
    obtain ⟨rfl, rfl, rfl, rfl, rfl, rfl, rfl, rfl⟩ := h
    exact rri_no a0 w hf
end Go.Proofs.YtjlchnmpebdggaaDoor.Mo
end
section
-- PRINTED by a driver of print.py
namespace Go.Proofs.YtjlchnmpebdggaaDoor.Mo
open Go.RowKit Go.Proofs.YtjlchnmpebdggaaDoorW.PrintWords Go.Proofs.YtjlchnmpebdggaaDoorW.PrintLast Go.Proofs.YtjlchnmpebdggaaDoorW.PrintMore
attribute [local go_sem] max2_int min2_int max_two min_two max_three min_three max_four min_four   -- for this text's walks alone
set_option linter.unusedVariables false
set_option linter.unusedSimpArgs false
def postbagref2_zone.f (k : Nat) (a0 : Int) : Option (ByteArray) := if a0 < 0 then ((postbagref2_text.f k (wrap64 (Int.tdiv (wrap64 (-a0)) 60)) 2).bind fun t264 => (if 1 + t264.size ≤ 9223372036854775807 then ((postbagref2_text.f k (Int.tmod (wrap64 (-a0)) 60) 2).bind fun t265 => (if ((⟨#[45]⟩ : ByteArray) ++ t264).size + t265.size ≤ 9223372036854775807 then (some (((⟨#[45]⟩ : ByteArray) ++ t264) ++ t265)) else (none))) else (none))) else ((postbagref2_text.f k (wrap64 (Int.tdiv a0 60)) 2).bind fun t266 => (if 1 + t266.size ≤ 9223372036854775807 then ((postbagref2_text.f k (Int.tmod a0 60) 2).bind fun t267 => (if ((⟨#[43]⟩ : ByteArray) ++ t266).size + t267.size ≤ 9223372036854775807 then (some (((⟨#[43]⟩ : ByteArray) ++ t266) ++ t267)) else (none))) else (none)))
set_option maxHeartbeats 8000000 in
set_option maxRecDepth 100000 in
theorem postbagref2_zone.calls (k : Nat) (a0 : Int) (r : ByteArray) (w : World) (h : postbagref2_zone.f k a0 = some r) :
  Calls Tryd.prog 96 #[.int .i64 a0] w fun e w' => e = .returned (.string r) ∧ Below w.heap.size w w' := by
 have HB := Aside0.mk (Below.refl w.heap.size w)
 have H : (if a0 < 0 then ((postbagref2_text.f k (wrap64 (Int.tdiv (wrap64 (-a0)) 60)) 2).bind fun t264 => (if 1 + t264.size ≤ 9223372036854775807 then ((postbagref2_text.f k (Int.tmod (wrap64 (-a0)) 60) 2).bind fun t265 => (if ((⟨#[45]⟩ : ByteArray) ++ t264).size + t265.size ≤ 9223372036854775807 then (some (((⟨#[45]⟩ : ByteArray) ++ t264) ++ t265)) else (none))) else (none))) else ((postbagref2_text.f k (wrap64 (Int.tdiv a0 60)) 2).bind fun t266 => (if 1 + t266.size ≤ 9223372036854775807 then ((postbagref2_text.f k (Int.tmod a0 60) 2).bind fun t267 => (if ((⟨#[43]⟩ : ByteArray) ++ t266).size + t267.size ≤ 9223372036854775807 then (some (((⟨#[43]⟩ : ByteArray) ++ t266) ++ t267)) else (none))) else (none)))) = some r := h
 clear h
 by_cases c2 : a0 < 0
 ·rw [if_pos c2] at H
  have c2b0 : decide (a0 < 0) = true := decide_eq_true c2
  clear c2
  replace H := Option.bind_eq_some_iff.mp H
  obtain ⟨t264, A30, H⟩ := H
  replace H : (if 1 + t264.size ≤ 9223372036854775807 then ((postbagref2_text.f k (Int.tmod (wrap64 (-a0)) 60) 2).bind fun t265 => (if ((⟨#[45]⟩ : ByteArray) ++ t264).size + t265.size ≤ 9223372036854775807 then (some (((⟨#[45]⟩ : ByteArray) ++ t264) ++ t265)) else (none))) else (none)) = some r := H
  have A3 := Aside0.mk A30
  clear A30
  by_cases c4 : 1 + t264.size ≤ 9223372036854775807
  ·rw [if_pos c4] at H
   have c4b0 := eq_true c4
   have c4b1 : decide (1 + t264.size ≤ 9223372036854775807) = true := decide_eq_true c4
   try have c4b2 : (9223372036854775807 < 1 + t264.size) = False := eq_false (Nat.not_lt.2 c4)
   replace H := Option.bind_eq_some_iff.mp H
   obtain ⟨t265, A50, H⟩ := H
   replace H : (if ((⟨#[45]⟩ : ByteArray) ++ t264).size + t265.size ≤ 9223372036854775807 then (some (((⟨#[45]⟩ : ByteArray) ++ t264) ++ t265)) else (none)) = some r := H
   have A5 := Aside0.mk A50
   clear A50
   by_cases c6 : ((⟨#[45]⟩ : ByteArray) ++ t264).size + t265.size ≤ 9223372036854775807
   ·rw [if_pos c6] at H
    have c6b0 := eq_true c6
    have c6b1 : decide (((⟨#[45]⟩ : ByteArray) ++ t264).size + t265.size ≤ 9223372036854775807) = true := decide_eq_true c6
    try have c6b2 : (9223372036854775807 < ((⟨#[45]⟩ : ByteArray) ++ t264).size + t265.size) = False := eq_false (Nat.not_lt.2 c6)
    try have c6b7 : (9223372036854775807 < 1 + t264.size + t265.size) = False := eq_false (by have h_ := c6; simp only [ByteArray.size_append] at h_; first | exact Nat.not_lt.2 h_ | omega | (simp at h_ ⊢; omega))
    try have c6b3 : (9223372036854775807 < (⟨#[45]⟩ : ByteArray).size + t264.size + t265.size) = False := eq_false (by have h_ := c6; simp only [ByteArray.size_append] at h_; omega)
    obtain rfl := Option.some.inj H
    go_enter Tryd.func96, Tryd.ntmps96
    go_wp2_with (first | ((with_reducible refine gate_callee (f := 79) rfl ?_); refine goesL_ (some 11) rfl rfl Tryd.func79 (by kernel_rfl) rfl #[.int .i64 (wrap64 (Int.tdiv (wrap64 (-a0)) 60)), .int .i64 2] rfl (by (try simp only [List.map_toArray, List.map_cons, List.map_nil]); first | done | rfl | (simp only [List.length_drop, List.length_take]; rfl)) ?_; (with_reducible refine (postbagref2_text.calls k (wrap64 (Int.tdiv (wrap64 (-a0)) 60)) 2 t264 _ A3.out).mono ?_); rintro e w7 ⟨rfl, hb⟩; refine ⟨_, rfl, ?_⟩; have n0_ := Aside0.mk (below_step (by repeat (first | (with_reducible first | exact HB.out | apply below_alloc | apply pw_below_drewN | apply below_drew1) | exact HB.out)) hb); clear HB; have HB := n0_; clear n0_; (try clear hb); (try clear hb2); (try clear hk); (try clear hi)) | ((with_reducible refine gate_callee (f := 79) rfl ?_); refine goesL_ (some 15) rfl rfl Tryd.func79 (by kernel_rfl) rfl #[.int .i64 (Int.tmod (wrap64 (-a0)) 60), .int .i64 2] rfl (by (try simp only [List.map_toArray, List.map_cons, List.map_nil]); first | done | rfl | (simp only [List.length_drop, List.length_take]; rfl)) ?_; (with_reducible refine (postbagref2_text.calls k (Int.tmod (wrap64 (-a0)) 60) 2 t265 _ A5.out).mono ?_); rintro e w8 ⟨rfl, hb⟩; refine ⟨_, rfl, ?_⟩; have n0_ := Aside0.mk (below_step (by repeat (first | (with_reducible first | exact HB.out | apply below_alloc | apply pw_below_drewN | apply below_drew1) | exact HB.out)) hb); clear HB; have HB := n0_; clear n0_; (try clear hb); (try clear hb2); (try clear hk); (try clear hi)))
    go_ret
    exact ⟨by first | rfl | (simp [errW_none, errW_some] <;> rfl) | (simp [*, errW_none, errW_some] <;> rfl), by repeat (first | (with_reducible first | exact HB.out | apply below_alloc | apply pw_below_drewN | apply below_drew1) | exact HB.out)⟩
   ·rw [if_neg c6] at H
    exact absurd H (by simp)
  ·rw [if_neg c4] at H
   exact absurd H (by simp)
 ·rw [if_neg c2] at H
  have c2b0 : decide (a0 < 0) = false := decide_eq_false c2
  clear c2
  replace H := Option.bind_eq_some_iff.mp H
  obtain ⟨t266, A90, H⟩ := H
  replace H : (if 1 + t266.size ≤ 9223372036854775807 then ((postbagref2_text.f k (Int.tmod a0 60) 2).bind fun t267 => (if ((⟨#[43]⟩ : ByteArray) ++ t266).size + t267.size ≤ 9223372036854775807 then (some (((⟨#[43]⟩ : ByteArray) ++ t266) ++ t267)) else (none))) else (none)) = some r := H
  have A9 := Aside0.mk A90
  clear A90
  by_cases c10 : 1 + t266.size ≤ 9223372036854775807
  ·rw [if_pos c10] at H
   have c10b0 := eq_true c10
   have c10b1 : decide (1 + t266.size ≤ 9223372036854775807) = true := decide_eq_true c10
   try have c10b2 : (9223372036854775807 < 1 + t266.size) = False := eq_false (Nat.not_lt.2 c10)
   replace H := Option.bind_eq_some_iff.mp H
   obtain ⟨t267, A110, H⟩ := H
   replace H : (if ((⟨#[43]⟩ : ByteArray) ++ t266).size + t267.size ≤ 9223372036854775807 then (some (((⟨#[43]⟩ : ByteArray) ++ t266) ++ t267)) else (none)) = some r := H
   have A11 := Aside0.mk A110
   clear A110
   by_cases c12 : ((⟨#[43]⟩ : ByteArray) ++ t266).size + t267.size ≤ 9223372036854775807
   ·rw [if_pos c12] at H
    have c12b0 := eq_true c12
    have c12b1 : decide (((⟨#[43]⟩ : ByteArray) ++ t266).size + t267.size ≤ 9223372036854775807) = true := decide_eq_true c12
    try have c12b2 : (9223372036854775807 < ((⟨#[43]⟩ : ByteArray) ++ t266).size + t267.size) = False := eq_false (Nat.not_lt.2 c12)
    try have c12b7 : (9223372036854775807 < 1 + t266.size + t267.size) = False := eq_false (by have h_ := c12; simp only [ByteArray.size_append] at h_; first | exact Nat.not_lt.2 h_ | omega | (simp at h_ ⊢; omega))
    try have c12b3 : (9223372036854775807 < (⟨#[43]⟩ : ByteArray).size + t266.size + t267.size) = False := eq_false (by have h_ := c12; simp only [ByteArray.size_append] at h_; omega)
    obtain rfl := Option.some.inj H
    go_enter Tryd.func96, Tryd.ntmps96
    go_wp2_with (first | ((with_reducible refine gate_callee (f := 79) rfl ?_); refine goesL_ (some 11) rfl rfl Tryd.func79 (by kernel_rfl) rfl #[.int .i64 (wrap64 (Int.tdiv a0 60)), .int .i64 2] rfl (by (try simp only [List.map_toArray, List.map_cons, List.map_nil]); first | done | rfl | (simp only [List.length_drop, List.length_take]; rfl)) ?_; (with_reducible refine (postbagref2_text.calls k (wrap64 (Int.tdiv a0 60)) 2 t266 _ A9.out).mono ?_); rintro e w13 ⟨rfl, hb⟩; refine ⟨_, rfl, ?_⟩; have n0_ := Aside0.mk (below_step (by repeat (first | (with_reducible first | exact HB.out | apply below_alloc | apply pw_below_drewN | apply below_drew1) | exact HB.out)) hb); clear HB; have HB := n0_; clear n0_; (try clear hb); (try clear hb2); (try clear hk); (try clear hi)) | ((with_reducible refine gate_callee (f := 79) rfl ?_); refine goesL_ (some 15) rfl rfl Tryd.func79 (by kernel_rfl) rfl #[.int .i64 (Int.tmod a0 60), .int .i64 2] rfl (by (try simp only [List.map_toArray, List.map_cons, List.map_nil]); first | done | rfl | (simp only [List.length_drop, List.length_take]; rfl)) ?_; (with_reducible refine (postbagref2_text.calls k (Int.tmod a0 60) 2 t267 _ A11.out).mono ?_); rintro e w14 ⟨rfl, hb⟩; refine ⟨_, rfl, ?_⟩; have n0_ := Aside0.mk (below_step (by repeat (first | (with_reducible first | exact HB.out | apply below_alloc | apply pw_below_drewN | apply below_drew1) | exact HB.out)) hb); clear HB; have HB := n0_; clear n0_; (try clear hb); (try clear hb2); (try clear hk); (try clear hi)))
    go_ret
    exact ⟨by first | rfl | (simp [errW_none, errW_some] <;> rfl) | (simp [*, errW_none, errW_some] <;> rfl), by repeat (first | (with_reducible first | exact HB.out | apply below_alloc | apply pw_below_drewN | apply below_drew1) | exact HB.out)⟩
   ·rw [if_neg c12] at H
    exact absurd H (by simp)
  ·rw [if_neg c10] at H
   exact absurd H (by simp)
def postbagref2_clock.f (k : Nat) (a0_0 : Int) (a0_1 : Int) (a0_2 : Int) (a0_3 : Int) (a0_4 : Int) (a0_5 : Int) (a0_6 : Int) : Option (ByteArray) := (postbagref2_text.f k a0_3 2).bind fun t269 => (if t269.size + 1 ≤ 9223372036854775807 then ((postbagref2_text.f k a0_4 2).bind fun t270 => (if (t269 ++ (⟨#[58]⟩ : ByteArray)).size + t270.size ≤ 9223372036854775807 then (if ((t269 ++ (⟨#[58]⟩ : ByteArray)) ++ t270).size + 1 ≤ 9223372036854775807 then ((postbagref2_text.f k a0_5 2).bind fun t271 => (if (((t269 ++ (⟨#[58]⟩ : ByteArray)) ++ t270) ++ (⟨#[58]⟩ : ByteArray)).size + t271.size ≤ 9223372036854775807 then (if ((((t269 ++ (⟨#[58]⟩ : ByteArray)) ++ t270) ++ (⟨#[58]⟩ : ByteArray)) ++ t271).size + 1 ≤ 9223372036854775807 then ((postbagref2_zone.f k a0_6).bind fun t272 => (if (((((t269 ++ (⟨#[58]⟩ : ByteArray)) ++ t270) ++ (⟨#[58]⟩ : ByteArray)) ++ t271) ++ (⟨#[32]⟩ : ByteArray)).size + t272.size ≤ 9223372036854775807 then (some ((((((t269 ++ (⟨#[58]⟩ : ByteArray)) ++ t270) ++ (⟨#[58]⟩ : ByteArray)) ++ t271) ++ (⟨#[32]⟩ : ByteArray)) ++ t272)) else (none))) else (none)) else (none))) else (none)) else (none))) else (none))
def postbagref2_clock.T1 : Bool × List (List Nat × List Nat) := (true, [([], []), ([0], [0]), ([1], [1]), ([2], [2]), ([], []), ([4], [4]), ([5, 2], [5]), ([3, 6], [3, 6]), ([7], [7]), ([], []), ([9], [9]), ([10, 6], [10]), ([8, 11], [8, 11]), ([12], [12]), ([], []), ([14], [14]), ([15, 11], [15]), ([13, 16], [13, 16]), ([17, 16, 0, 1, 2, 3, 4, 5, 6, 7, 8, 9, 10, 11, 12, 13, 14, 15, 16, 17], [17])])
def postbagref2_clock.B1 : List Nat := [0, 1, 3, 7, 0, 16, 55, 127, 255, 0, 512, 1655, 4095, 8191, 0, 16384, 52855, 131071, 262143]
theorem postbagref2_clock.tab1 : rtab .any (opsOf Tryd.f80 1) = postbagref2_clock.T1 := by kernel_rfl
theorem postbagref2_clock.bits1 : waitsOk postbagref2_clock.T1.2 postbagref2_clock.B1 = true := by kernel_rfl
set_option maxHeartbeats 8000000 in
set_option maxRecDepth 100000 in
theorem postbagref2_clock.calls (k : Nat) (a0_0 : Int) (a0_1 : Int) (a0_2 : Int) (a0_3 : Int) (a0_4 : Int) (a0_5 : Int) (a0_6 : Int) (r : ByteArray) (w : World) (h : postbagref2_clock.f k a0_0 a0_1 a0_2 a0_3 a0_4 a0_5 a0_6 = some r) :
  Calls Tryd.prog 80 #[.agg #[.int .i64 a0_0, .int .i64 a0_1, .int .i64 a0_2, .int .i64 a0_3, .int .i64 a0_4, .int .i64 a0_5, .int .i64 a0_6]] w fun e w' => e = .returned (.string r) ∧ Below w.heap.size w w' := by
 have hu23 := Tryd.underlying23
 have HB := Aside0.mk (Below.refl w.heap.size w)
 have H : ((postbagref2_text.f k a0_3 2).bind fun t269 => (if t269.size + 1 ≤ 9223372036854775807 then ((postbagref2_text.f k a0_4 2).bind fun t270 => (if (t269 ++ (⟨#[58]⟩ : ByteArray)).size + t270.size ≤ 9223372036854775807 then (if ((t269 ++ (⟨#[58]⟩ : ByteArray)) ++ t270).size + 1 ≤ 9223372036854775807 then ((postbagref2_text.f k a0_5 2).bind fun t271 => (if (((t269 ++ (⟨#[58]⟩ : ByteArray)) ++ t270) ++ (⟨#[58]⟩ : ByteArray)).size + t271.size ≤ 9223372036854775807 then (if ((((t269 ++ (⟨#[58]⟩ : ByteArray)) ++ t270) ++ (⟨#[58]⟩ : ByteArray)) ++ t271).size + 1 ≤ 9223372036854775807 then ((postbagref2_zone.f k a0_6).bind fun t272 => (if (((((t269 ++ (⟨#[58]⟩ : ByteArray)) ++ t270) ++ (⟨#[58]⟩ : ByteArray)) ++ t271) ++ (⟨#[32]⟩ : ByteArray)).size + t272.size ≤ 9223372036854775807 then (some ((((((t269 ++ (⟨#[58]⟩ : ByteArray)) ++ t270) ++ (⟨#[58]⟩ : ByteArray)) ++ t271) ++ (⟨#[32]⟩ : ByteArray)) ++ t272)) else (none))) else (none)) else (none))) else (none)) else (none))) else (none))) = some r := h
 clear h
 replace H := Option.bind_eq_some_iff.mp H
 obtain ⟨t269, A20, H⟩ := H
 replace H : (if t269.size + 1 ≤ 9223372036854775807 then ((postbagref2_text.f k a0_4 2).bind fun t270 => (if (t269 ++ (⟨#[58]⟩ : ByteArray)).size + t270.size ≤ 9223372036854775807 then (if ((t269 ++ (⟨#[58]⟩ : ByteArray)) ++ t270).size + 1 ≤ 9223372036854775807 then ((postbagref2_text.f k a0_5 2).bind fun t271 => (if (((t269 ++ (⟨#[58]⟩ : ByteArray)) ++ t270) ++ (⟨#[58]⟩ : ByteArray)).size + t271.size ≤ 9223372036854775807 then (if ((((t269 ++ (⟨#[58]⟩ : ByteArray)) ++ t270) ++ (⟨#[58]⟩ : ByteArray)) ++ t271).size + 1 ≤ 9223372036854775807 then ((postbagref2_zone.f k a0_6).bind fun t272 => (if (((((t269 ++ (⟨#[58]⟩ : ByteArray)) ++ t270) ++ (⟨#[58]⟩ : ByteArray)) ++ t271) ++ (⟨#[32]⟩ : ByteArray)).size + t272.size ≤ 9223372036854775807 then (some ((((((t269 ++ (⟨#[58]⟩ : ByteArray)) ++ t270) ++ (⟨#[58]⟩ : ByteArray)) ++ t271) ++ (⟨#[32]⟩ : ByteArray)) ++ t272)) else (none))) else (none)) else (none))) else (none)) else (none))) else (none)) = some r := H
 have A2 := Aside0.mk A20
 clear A20
 by_cases c3 : t269.size + 1 ≤ 9223372036854775807
 ·rw [if_pos c3] at H
  have c3b0 := eq_true c3
  have c3b1 : decide (t269.size + 1 ≤ 9223372036854775807) = true := decide_eq_true c3
  try have c3b2 : (9223372036854775807 < t269.size + 1) = False := eq_false (Nat.not_lt.2 c3)
  replace H := Option.bind_eq_some_iff.mp H
  obtain ⟨t270, A40, H⟩ := H
  replace H : (if (t269 ++ (⟨#[58]⟩ : ByteArray)).size + t270.size ≤ 9223372036854775807 then (if ((t269 ++ (⟨#[58]⟩ : ByteArray)) ++ t270).size + 1 ≤ 9223372036854775807 then ((postbagref2_text.f k a0_5 2).bind fun t271 => (if (((t269 ++ (⟨#[58]⟩ : ByteArray)) ++ t270) ++ (⟨#[58]⟩ : ByteArray)).size + t271.size ≤ 9223372036854775807 then (if ((((t269 ++ (⟨#[58]⟩ : ByteArray)) ++ t270) ++ (⟨#[58]⟩ : ByteArray)) ++ t271).size + 1 ≤ 9223372036854775807 then ((postbagref2_zone.f k a0_6).bind fun t272 => (if (((((t269 ++ (⟨#[58]⟩ : ByteArray)) ++ t270) ++ (⟨#[58]⟩ : ByteArray)) ++ t271) ++ (⟨#[32]⟩ : ByteArray)).size + t272.size ≤ 9223372036854775807 then (some ((((((t269 ++ (⟨#[58]⟩ : ByteArray)) ++ t270) ++ (⟨#[58]⟩ : ByteArray)) ++ t271) ++ (⟨#[32]⟩ : ByteArray)) ++ t272)) else (none))) else (none)) else (none))) else (none)) else (none)) = some r := H
  have A4 := Aside0.mk A40
  clear A40
  by_cases c5 : (t269 ++ (⟨#[58]⟩ : ByteArray)).size + t270.size ≤ 9223372036854775807
  ·rw [if_pos c5] at H
   have c5b0 := eq_true c5
   have c5b1 : decide ((t269 ++ (⟨#[58]⟩ : ByteArray)).size + t270.size ≤ 9223372036854775807) = true := decide_eq_true c5
   try have c5b2 : (9223372036854775807 < (t269 ++ (⟨#[58]⟩ : ByteArray)).size + t270.size) = False := eq_false (Nat.not_lt.2 c5)
   try have c5b7 : (9223372036854775807 < t269.size + 1 + t270.size) = False := eq_false (by have h_ := c5; simp only [ByteArray.size_append] at h_; first | exact Nat.not_lt.2 h_ | omega | (simp at h_ ⊢; omega))
   try have c5b3 : (9223372036854775807 < t269.size + (⟨#[58]⟩ : ByteArray).size + t270.size) = False := eq_false (by have h_ := c5; simp only [ByteArray.size_append] at h_; omega)
   by_cases c6 : ((t269 ++ (⟨#[58]⟩ : ByteArray)) ++ t270).size + 1 ≤ 9223372036854775807
   ·rw [if_pos c6] at H
    have c6b0 := eq_true c6
    have c6b1 : decide (((t269 ++ (⟨#[58]⟩ : ByteArray)) ++ t270).size + 1 ≤ 9223372036854775807) = true := decide_eq_true c6
    try have c6b2 : (9223372036854775807 < ((t269 ++ (⟨#[58]⟩ : ByteArray)) ++ t270).size + 1) = False := eq_false (Nat.not_lt.2 c6)
    try have c6b7 : (9223372036854775807 < t269.size + 1 + t270.size + 1) = False := eq_false (by have h_ := c6; simp only [ByteArray.size_append] at h_; first | exact Nat.not_lt.2 h_ | omega | (simp at h_ ⊢; omega))
    try have c6b3 : (9223372036854775807 < t269.size + (⟨#[58]⟩ : ByteArray).size + t270.size + 1) = False := eq_false (by have h_ := c6; simp only [ByteArray.size_append] at h_; omega)
    replace H := Option.bind_eq_some_iff.mp H
    obtain ⟨t271, A70, H⟩ := H
    replace H : (if (((t269 ++ (⟨#[58]⟩ : ByteArray)) ++ t270) ++ (⟨#[58]⟩ : ByteArray)).size + t271.size ≤ 9223372036854775807 then (if ((((t269 ++ (⟨#[58]⟩ : ByteArray)) ++ t270) ++ (⟨#[58]⟩ : ByteArray)) ++ t271).size + 1 ≤ 9223372036854775807 then ((postbagref2_zone.f k a0_6).bind fun t272 => (if (((((t269 ++ (⟨#[58]⟩ : ByteArray)) ++ t270) ++ (⟨#[58]⟩ : ByteArray)) ++ t271) ++ (⟨#[32]⟩ : ByteArray)).size + t272.size ≤ 9223372036854775807 then (some ((((((t269 ++ (⟨#[58]⟩ : ByteArray)) ++ t270) ++ (⟨#[58]⟩ : ByteArray)) ++ t271) ++ (⟨#[32]⟩ : ByteArray)) ++ t272)) else (none))) else (none)) else (none)) = some r := H
    have A7 := Aside0.mk A70
    clear A70
    by_cases c8 : (((t269 ++ (⟨#[58]⟩ : ByteArray)) ++ t270) ++ (⟨#[58]⟩ : ByteArray)).size + t271.size ≤ 9223372036854775807
    ·rw [if_pos c8] at H
     have c8b0 := eq_true c8
     have c8b1 : decide ((((t269 ++ (⟨#[58]⟩ : ByteArray)) ++ t270) ++ (⟨#[58]⟩ : ByteArray)).size + t271.size ≤ 9223372036854775807) = true := decide_eq_true c8
     try have c8b2 : (9223372036854775807 < (((t269 ++ (⟨#[58]⟩ : ByteArray)) ++ t270) ++ (⟨#[58]⟩ : ByteArray)).size + t271.size) = False := eq_false (Nat.not_lt.2 c8)
     try have c8b7 : (9223372036854775807 < t269.size + 1 + t270.size + 1 + t271.size) = False := eq_false (by have h_ := c8; simp only [ByteArray.size_append] at h_; first | exact Nat.not_lt.2 h_ | omega | (simp at h_ ⊢; omega))
     try have c8b3 : (9223372036854775807 < t269.size + (⟨#[58]⟩ : ByteArray).size + t270.size + (⟨#[58]⟩ : ByteArray).size + t271.size) = False := eq_false (by have h_ := c8; simp only [ByteArray.size_append] at h_; omega)
     by_cases c9 : ((((t269 ++ (⟨#[58]⟩ : ByteArray)) ++ t270) ++ (⟨#[58]⟩ : ByteArray)) ++ t271).size + 1 ≤ 9223372036854775807
     ·rw [if_pos c9] at H
      have c9b0 := eq_true c9
      have c9b1 : decide (((((t269 ++ (⟨#[58]⟩ : ByteArray)) ++ t270) ++ (⟨#[58]⟩ : ByteArray)) ++ t271).size + 1 ≤ 9223372036854775807) = true := decide_eq_true c9
      try have c9b2 : (9223372036854775807 < ((((t269 ++ (⟨#[58]⟩ : ByteArray)) ++ t270) ++ (⟨#[58]⟩ : ByteArray)) ++ t271).size + 1) = False := eq_false (Nat.not_lt.2 c9)
      try have c9b7 : (9223372036854775807 < t269.size + 1 + t270.size + 1 + t271.size + 1) = False := eq_false (by have h_ := c9; simp only [ByteArray.size_append] at h_; first | exact Nat.not_lt.2 h_ | omega | (simp at h_ ⊢; omega))
      try have c9b3 : (9223372036854775807 < t269.size + (⟨#[58]⟩ : ByteArray).size + t270.size + (⟨#[58]⟩ : ByteArray).size + t271.size + 1) = False := eq_false (by have h_ := c9; simp only [ByteArray.size_append] at h_; omega)
      replace H := Option.bind_eq_some_iff.mp H
      obtain ⟨t272, A100, H⟩ := H
      replace H : (if (((((t269 ++ (⟨#[58]⟩ : ByteArray)) ++ t270) ++ (⟨#[58]⟩ : ByteArray)) ++ t271) ++ (⟨#[32]⟩ : ByteArray)).size + t272.size ≤ 9223372036854775807 then (some ((((((t269 ++ (⟨#[58]⟩ : ByteArray)) ++ t270) ++ (⟨#[58]⟩ : ByteArray)) ++ t271) ++ (⟨#[32]⟩ : ByteArray)) ++ t272)) else (none)) = some r := H
      have A10 := Aside0.mk A100
      clear A100
      by_cases c11 : (((((t269 ++ (⟨#[58]⟩ : ByteArray)) ++ t270) ++ (⟨#[58]⟩ : ByteArray)) ++ t271) ++ (⟨#[32]⟩ : ByteArray)).size + t272.size ≤ 9223372036854775807
      ·rw [if_pos c11] at H
       have c11b0 := eq_true c11
       have c11b1 : decide ((((((t269 ++ (⟨#[58]⟩ : ByteArray)) ++ t270) ++ (⟨#[58]⟩ : ByteArray)) ++ t271) ++ (⟨#[32]⟩ : ByteArray)).size + t272.size ≤ 9223372036854775807) = true := decide_eq_true c11
       try have c11b2 : (9223372036854775807 < (((((t269 ++ (⟨#[58]⟩ : ByteArray)) ++ t270) ++ (⟨#[58]⟩ : ByteArray)) ++ t271) ++ (⟨#[32]⟩ : ByteArray)).size + t272.size) = False := eq_false (Nat.not_lt.2 c11)
       try have c11b7 : (9223372036854775807 < t269.size + 1 + t270.size + 1 + t271.size + 1 + t272.size) = False := eq_false (by have h_ := c11; simp only [ByteArray.size_append] at h_; first | exact Nat.not_lt.2 h_ | omega | (simp at h_ ⊢; omega))
       try have c11b3 : (9223372036854775807 < t269.size + (⟨#[58]⟩ : ByteArray).size + t270.size + (⟨#[58]⟩ : ByteArray).size + t271.size + (⟨#[32]⟩ : ByteArray).size + t272.size) = False := eq_false (by have h_ := c11; simp only [ByteArray.size_append] at h_; omega)
       obtain rfl := Option.some.inj H
       go_enter Tryd.func80, Tryd.ntmps80
       try go_wp2_with (first | ((with_reducible refine gate_dst (N := 1) rfl ?_); refine box_event ?hg (N := 1) ?hd (cs := #[.int .i64 a0_0, .int .i64 a0_1, .int .i64 a0_2, .int .i64 a0_3, .int .i64 a0_4, .int .i64 a0_5, .int .i64 a0_6]) (t := 23) ?hr ?_; (case hd => rfl); (case hg => rfl); (case hr => first | (go_simp; done) | (go_simp; rfl)); intro gb268 hg w12 hbox hb; have n0_ := Aside0.mk (below_step (by repeat (first | (with_reducible first | exact HB.out | apply below_alloc | apply pw_below_drewN | apply below_drew1) | exact HB.out)) hb); have n1_ := Aside0.mk (hbox); have n2_ := Aside0.mk ((by rw [hg]; exact (below_size (by repeat (first | (with_reducible first | exact HB.out | apply below_alloc | apply pw_below_drewN | apply below_drew1) | exact HB.out))) : w.heap.size ≤ gb268)); have n3_ := Aside0.mk ((by rw [hg]; exact (below_size (by repeat (first | (with_reducible first | exact HB.out | apply below_alloc | apply pw_below_drewN | apply below_drew1) | exact HB.out))) : w.heap.size ≤ gb268)); clear HB; have HB := n0_; have BK268 := n1_; have GW268 := n2_; have GE268 := n3_; clear n0_ n1_ n2_ n3_; clear hb hbox hg))
       have n0_ := Aside0.mk (blk_drew BK268.out)
       have n1_ := Aside0.mk (below_drew1 HB.out)
       clear BK268
       clear HB
       have BK268 := n0_
       have HB := n1_
       clear n0_ n1_
       refine start_ (n := 19) (S := fun w' => w'.cell? ⟨gb268, 0, none⟩ = some (.int .i64 a0_0) ∧ w'.cell? ⟨gb268, 1, none⟩ = some (.int .i64 a0_1) ∧ w'.cell? ⟨gb268, 2, none⟩ = some (.int .i64 a0_2) ∧ w'.cell? ⟨gb268, 3, none⟩ = some (.int .i64 a0_3) ∧ w'.cell? ⟨gb268, 4, none⟩ = some (.int .i64 a0_4) ∧ w'.cell? ⟨gb268, 5, none⟩ = some (.int .i64 a0_5) ∧ w'.cell? ⟨gb268, 6, none⟩ = some (.int .i64 a0_6)) (ds := []) (bs_ 0 19) (by kernel_rfl) rfl rfl ⟨(blk_cell BK268.out 0).trans rfl, (blk_cell BK268.out 1).trans rfl, (blk_cell BK268.out 2).trans rfl, (blk_cell BK268.out 3).trans rfl, (blk_cell BK268.out 4).trans rfl, (blk_cell BK268.out 5).trans rfl, (blk_cell BK268.out 6).trans rfl⟩ (fun hHeld => ?_); refine with_tabW postbagref2_clock.tab1 postbagref2_clock.bits1 (fun HT_ HW_ => ?_)
       generalize w12.drew = w13 at BK268 HB hHeld ⊢
       refine pu_ 0 (some 3) ?_ (bs_ 1 18) rfl rfl (any_of HT_.out (by kernel_rfl)) (fun _ _ _ h => h) (y_ (by rfl) ?_) ?_ ?_ ?_
       rotate_left
       ·intro w'
        go_simp
        with_reducible rfl
       rotate_left
       ·simp only [Act.put, s1_, s2_, s3_, i64_w, i32_w]
        rfl
       refine pu_ 4 (some 7) ?_ #[true, false, false, false, true, false, false, false, false, false, false, false, false, false, false, false, false, false, false] rfl rfl (any_of HT_.out (by kernel_rfl)) (fun _ _ _ h => h) (y_ (by rfl) ?_) ?_ ?_ ?_
       rotate_left
       ·intro w'
        go_simp
        with_reducible rfl
       rotate_left
       ·simp only [Act.put, s1_, s2_, s3_, i64_w, i32_w]
        rfl
       refine pu_ 9 (some 12) ?_ #[true, false, false, false, true, false, false, false, false, true, false, false, false, false, false, false, false, false, false] rfl rfl (any_of HT_.out (by kernel_rfl)) (fun _ _ _ h => h) (y_ (by rfl) ?_) ?_ ?_ ?_
       rotate_left
       ·intro w'
        go_simp
        with_reducible rfl
       rotate_left
       ·simp only [Act.put, s1_, s2_, s3_, i64_w, i32_w]
        rfl
       refine pu_ 14 (some 17) ?_ #[true, false, false, false, true, false, false, false, false, true, false, false, false, false, true, false, false, false, false] rfl rfl (any_of HT_.out (by kernel_rfl)) (fun _ _ _ h => h) (y_ (by rfl) ?_) ?_ ?_ ?_
       rotate_left
       ·intro w'
        go_simp
        with_reducible rfl
       rotate_left
       ·simp only [Act.put, s1_, s2_, s3_, i64_w, i32_w]
        rfl
       refine take_ (i := 1) (N := some 4) (v := ?_) (a' := ?_) #[true, true, false, false, true, false, false, false, false, true, false, false, false, false, true, false, false, false, false] rfl rfl (take_ofW HT_.out HW_.out (by kernel_rfl)) (fun _ _ _ h => h) (Or.inl ⟨by rfl, ?_⟩) hHeld ?_ ?_
       rotate_left
       ·rintro w' ⟨s0, s1, s2, s3, s4, s5, s6⟩
        go_simp
        with_reducible rfl
       rotate_left
       ·simp only [Act.put, s1_, s2_, s3_, i64_w, i32_w]
        rfl
       refine take_ (i := 5) (N := some 8) (v := ?_) (a' := ?_) #[true, true, false, false, true, true, false, false, false, true, false, false, false, false, true, false, false, false, false] rfl rfl (take_ofW HT_.out HW_.out (by kernel_rfl)) (fun _ _ _ h => h) (Or.inl ⟨by rfl, ?_⟩) hHeld ?_ ?_
       rotate_left
       ·rintro w' ⟨s0, s1, s2, s3, s4, s5, s6⟩
        go_simp
        with_reducible rfl
       rotate_left
       ·simp only [Act.put, s1_, s2_, s3_, i64_w, i32_w]
        rfl
       refine take_ (i := 10) (N := some 13) (v := ?_) (a' := ?_) #[true, true, false, false, true, true, false, false, false, true, true, false, false, false, true, false, false, false, false] rfl rfl (take_ofW HT_.out HW_.out (by kernel_rfl)) (fun _ _ _ h => h) (Or.inl ⟨by rfl, ?_⟩) hHeld ?_ ?_
       rotate_left
       ·rintro w' ⟨s0, s1, s2, s3, s4, s5, s6⟩
        go_simp
        with_reducible rfl
       rotate_left
       ·simp only [Act.put, s1_, s2_, s3_, i64_w, i32_w]
        rfl
       refine take_ (i := 15) (N := some 18) (v := ?_) (a' := ?_) #[true, true, false, false, true, true, false, false, false, true, true, false, false, false, true, true, false, false, false] rfl rfl (take_ofW HT_.out HW_.out (by kernel_rfl)) (fun _ _ _ h => h) (Or.inl ⟨by rfl, ?_⟩) hHeld ?_ ?_
       rotate_left
       ·rintro w' ⟨s0, s1, s2, s3, s4, s5, s6⟩
        go_simp
        with_reducible rfl
       rotate_left
       ·simp only [Act.put, s1_, s2_, s3_, i64_w, i32_w]
        rfl
       refine one_ (i := 2) (N := some 5) #[true, true, true, false, true, true, false, false, false, true, true, false, false, false, true, true, false, false, false] rfl rfl (one_of HT_.out (by kernel_rfl)) (by decide) (fun K hK => ?_)
       refine goes_ Tryd.func79 (by kernel_rfl) rfl #[.int .i64 a0_3, .int .i64 2] (by rfl) rfl rfl (by (try simp only [List.map_toArray, List.map_cons, List.map_nil]); first | done | rfl | (simp only [List.length_drop, List.length_take]; rfl)) ?_
       with_reducible refine (postbagref2_text.calls k a0_3 2 t269 _ A2.out).mono ?_
       rintro e w14 ⟨rfl, hb⟩
       refine ⟨_, rfl, ?_⟩
       have n0_ := Aside0.mk (blk_below (g := gb268) (o := .cells #[.int .i64 a0_0, .int .i64 a0_1, .int .i64 a0_2, .int .i64 a0_3, .int .i64 a0_4, .int .i64 a0_5, .int .i64 a0_6] 23 (0, 0)) (by (with_reducible repeat (first | refine blk_drewN ?_ _ | refine blk_drew ?_ | refine blk_alloc ?_ _)); exact BK268.out) hb)
       have n1_ := Aside0.mk (below_step (by repeat (first | (with_reducible first | exact HB.out | apply below_alloc | apply pw_below_drewN | apply below_drew1 | refine below_set ?_ GE268.out) | exact HB.out)) hb)
       clear BK268
       clear HB
       have BK268 := n0_
       have HB := n1_
       clear n0_ n1_
       (try clear hb)
       (try clear hb2)
       (try clear hk)
       (try clear hi)
       refine hK.out _ _ ⟨(blk_cell BK268.out 0).trans rfl, (blk_cell BK268.out 1).trans rfl, (blk_cell BK268.out 2).trans rfl, (blk_cell BK268.out 3).trans rfl, (blk_cell BK268.out 4).trans rfl, (blk_cell BK268.out 5).trans rfl, (blk_cell BK268.out 6).trans rfl⟩ (fun hHeld => ?_)
       clear hK K
       refine norm_ (a' := ?_) ?_ ?_
       rotate_left
       ·show Act.put _ (some 5) _ = _
        simp only [Act.put, s1_, s2_, s3_, i64_w, i32_w]
        rfl
       refine pu_ 3 (some 6) ?_ #[true, true, true, true, true, true, false, false, false, true, true, false, false, false, true, true, false, false, false] rfl rfl (any_of HT_.out (by kernel_rfl)) (fun _ _ _ h => h) (y_ (by rfl) ?_) ?_ ?_ ?_
       rotate_left
       ·intro w'
        go_simp
        with_reducible rfl
       rotate_left
       ·simp only [Act.put, s1_, s2_, s3_, i64_w, i32_w]
        rfl
       refine one_ (i := 6) (N := some 9) #[true, true, true, true, true, true, true, false, false, true, true, false, false, false, true, true, false, false, false] rfl rfl (one_of HT_.out (by kernel_rfl)) (by decide) (fun K hK => ?_)
       refine goes_ Tryd.func79 (by kernel_rfl) rfl #[.int .i64 a0_4, .int .i64 2] (by rfl) rfl rfl (by (try simp only [List.map_toArray, List.map_cons, List.map_nil]); first | done | rfl | (simp only [List.length_drop, List.length_take]; rfl)) ?_
       with_reducible refine (postbagref2_text.calls k a0_4 2 t270 _ A4.out).mono ?_
       rintro e w15 ⟨rfl, hb⟩
       refine ⟨_, rfl, ?_⟩
       have n0_ := Aside0.mk (blk_below (g := gb268) (o := .cells #[.int .i64 a0_0, .int .i64 a0_1, .int .i64 a0_2, .int .i64 a0_3, .int .i64 a0_4, .int .i64 a0_5, .int .i64 a0_6] 23 (0, 0)) (by (with_reducible repeat (first | refine blk_drewN ?_ _ | refine blk_drew ?_ | refine blk_alloc ?_ _)); exact BK268.out) hb)
       have n1_ := Aside0.mk (below_step (by repeat (first | (with_reducible first | exact HB.out | apply below_alloc | apply pw_below_drewN | apply below_drew1 | refine below_set ?_ GE268.out) | exact HB.out)) hb)
       clear BK268
       clear HB
       have BK268 := n0_
       have HB := n1_
       clear n0_ n1_
       (try clear hb)
       (try clear hb2)
       (try clear hk)
       (try clear hi)
       refine hK.out _ _ ⟨(blk_cell BK268.out 0).trans rfl, (blk_cell BK268.out 1).trans rfl, (blk_cell BK268.out 2).trans rfl, (blk_cell BK268.out 3).trans rfl, (blk_cell BK268.out 4).trans rfl, (blk_cell BK268.out 5).trans rfl, (blk_cell BK268.out 6).trans rfl⟩ (fun hHeld => ?_)
       clear hK K
       refine norm_ (a' := ?_) ?_ ?_
       rotate_left
       ·show Act.put _ (some 9) _ = _
        simp only [Act.put, s1_, s2_, s3_, i64_w, i32_w]
        rfl
       refine pu_ 7 (some 10) ?_ #[true, true, true, true, true, true, true, true, false, true, true, false, false, false, true, true, false, false, false] rfl rfl (any_of HT_.out (by kernel_rfl)) (fun _ _ _ h => h) (y_ (by rfl) ?_) ?_ ?_ ?_
       rotate_left
       ·intro w'
        go_simp
        with_reducible rfl
       rotate_left
       ·simp only [Act.put, s1_, s2_, s3_, i64_w, i32_w]
        rfl
       refine pu_ 8 (some 11) ?_ #[true, true, true, true, true, true, true, true, true, true, true, false, false, false, true, true, false, false, false] rfl rfl (any_of HT_.out (by kernel_rfl)) (fun _ _ _ h => h) (y_ (by rfl) ?_) ?_ ?_ ?_
       rotate_left
       ·intro w'
        go_simp
        with_reducible rfl
       rotate_left
       ·simp only [Act.put, s1_, s2_, s3_, i64_w, i32_w]
        rfl
       refine one_ (i := 11) (N := some 14) #[true, true, true, true, true, true, true, true, true, true, true, true, false, false, true, true, false, false, false] rfl rfl (one_of HT_.out (by kernel_rfl)) (by decide) (fun K hK => ?_)
       refine goes_ Tryd.func79 (by kernel_rfl) rfl #[.int .i64 a0_5, .int .i64 2] (by rfl) rfl rfl (by (try simp only [List.map_toArray, List.map_cons, List.map_nil]); first | done | rfl | (simp only [List.length_drop, List.length_take]; rfl)) ?_
       with_reducible refine (postbagref2_text.calls k a0_5 2 t271 _ A7.out).mono ?_
       rintro e w16 ⟨rfl, hb⟩
       refine ⟨_, rfl, ?_⟩
       have n0_ := Aside0.mk (blk_below (g := gb268) (o := .cells #[.int .i64 a0_0, .int .i64 a0_1, .int .i64 a0_2, .int .i64 a0_3, .int .i64 a0_4, .int .i64 a0_5, .int .i64 a0_6] 23 (0, 0)) (by (with_reducible repeat (first | refine blk_drewN ?_ _ | refine blk_drew ?_ | refine blk_alloc ?_ _)); exact BK268.out) hb)
       have n1_ := Aside0.mk (below_step (by repeat (first | (with_reducible first | exact HB.out | apply below_alloc | apply pw_below_drewN | apply below_drew1 | refine below_set ?_ GE268.out) | exact HB.out)) hb)
       clear BK268
       clear HB
       have BK268 := n0_
       have HB := n1_
       clear n0_ n1_
       (try clear hb)
       (try clear hb2)
       (try clear hk)
       (try clear hi)
       refine hK.out _ _ ⟨(blk_cell BK268.out 0).trans rfl, (blk_cell BK268.out 1).trans rfl, (blk_cell BK268.out 2).trans rfl, (blk_cell BK268.out 3).trans rfl, (blk_cell BK268.out 4).trans rfl, (blk_cell BK268.out 5).trans rfl, (blk_cell BK268.out 6).trans rfl⟩ (fun hHeld => ?_)
       clear hK K
       refine norm_ (a' := ?_) ?_ ?_
       rotate_left
       ·show Act.put _ (some 14) _ = _
        simp only [Act.put, s1_, s2_, s3_, i64_w, i32_w]
        rfl
       refine pu_ 12 (some 15) ?_ #[true, true, true, true, true, true, true, true, true, true, true, true, true, false, true, true, false, false, false] rfl rfl (any_of HT_.out (by kernel_rfl)) (fun _ _ _ h => h) (y_ (by rfl) ?_) ?_ ?_ ?_
       rotate_left
       ·intro w'
        go_simp
        with_reducible rfl
       rotate_left
       ·simp only [Act.put, s1_, s2_, s3_, i64_w, i32_w]
        rfl
       refine pu_ 13 (some 16) ?_ (bs_ 16 3) rfl rfl (any_of HT_.out (by kernel_rfl)) (fun _ _ _ h => h) (y_ (by rfl) ?_) ?_ ?_ ?_
       rotate_left
       ·intro w'
        go_simp
        with_reducible rfl
       rotate_left
       ·simp only [Act.put, s1_, s2_, s3_, i64_w, i32_w]
        rfl
       refine one_ (i := 16) (N := some 19) (bs_ 17 2) rfl rfl (one_of HT_.out (by kernel_rfl)) (by decide) (fun K hK => ?_)
       refine goes_ Tryd.func96 (by kernel_rfl) rfl #[.int .i64 a0_6] (by rfl) rfl rfl (by (try simp only [List.map_toArray, List.map_cons, List.map_nil]); first | done | rfl | (simp only [List.length_drop, List.length_take]; rfl)) ?_
       with_reducible refine (postbagref2_zone.calls k a0_6 t272 _ A10.out).mono ?_
       rintro e w17 ⟨rfl, hb⟩
       refine ⟨_, rfl, ?_⟩
       have n0_ := Aside0.mk (blk_below (g := gb268) (o := .cells #[.int .i64 a0_0, .int .i64 a0_1, .int .i64 a0_2, .int .i64 a0_3, .int .i64 a0_4, .int .i64 a0_5, .int .i64 a0_6] 23 (0, 0)) (by (with_reducible repeat (first | refine blk_drewN ?_ _ | refine blk_drew ?_ | refine blk_alloc ?_ _)); exact BK268.out) hb)
       have n1_ := Aside0.mk (below_step (by repeat (first | (with_reducible first | exact HB.out | apply below_alloc | apply pw_below_drewN | apply below_drew1 | refine below_set ?_ GE268.out) | exact HB.out)) hb)
       clear BK268
       clear HB
       have BK268 := n0_
       have HB := n1_
       clear n0_ n1_
       (try clear hb)
       (try clear hb2)
       (try clear hk)
       (try clear hi)
       refine hK.out _ _ ⟨(blk_cell BK268.out 0).trans rfl, (blk_cell BK268.out 1).trans rfl, (blk_cell BK268.out 2).trans rfl, (blk_cell BK268.out 3).trans rfl, (blk_cell BK268.out 4).trans rfl, (blk_cell BK268.out 5).trans rfl, (blk_cell BK268.out 6).trans rfl⟩ (fun hHeld => ?_)
       clear hK K
       refine norm_ (a' := ?_) ?_ ?_
       rotate_left
       ·show Act.put _ (some 19) _ = _
        simp only [Act.put, s1_, s2_, s3_, i64_w, i32_w]
        rfl
       refine pu_ 17 (some 20) ?_ (bs_ 18 1) rfl rfl (any_of HT_.out (by kernel_rfl)) (fun _ _ _ h => h) (y_ (by rfl) ?_) ?_ ?_ ?_
       rotate_left
       ·intro w'
        go_simp
        with_reducible rfl
       rotate_left
       ·simp only [Act.put, s1_, s2_, s3_, i64_w, i32_w]
        rfl
       refine pu_ 18 (some 2) ?_ (bs_ 19 0) rfl rfl (any_of HT_.out (by kernel_rfl)) (fun _ _ _ h => h) (y_ (by rfl) ?_) ?_ ?_ ?_
       rotate_left
       ·intro w'
        go_simp
        with_reducible rfl
       rotate_left
       ·simp only [Act.put, s1_, s2_, s3_, i64_w, i32_w]
        rfl
       refine done_ (done_of HT_.out (by kernel_rfl)) ?_
       try go_wp2
       go_ret
       exact ⟨by first | rfl | (simp [errW_none, errW_some] <;> rfl) | (simp [*, errW_none, errW_some] <;> rfl), by repeat (first | (with_reducible first | exact HB.out | apply below_alloc | apply pw_below_drewN | apply below_drew1 | refine below_set ?_ GE268.out) | exact HB.out)⟩
      ·rw [if_neg c11] at H
       exact absurd H (by simp)
     ·rw [if_neg c9] at H
      exact absurd H (by simp)
    ·rw [if_neg c8] at H
     exact absurd H (by simp)
   ·rw [if_neg c6] at H
    exact absurd H (by simp)
  ·rw [if_neg c5] at H
   exact absurd H (by simp)
 ·rw [if_neg c3] at H
  exact absurd H (by simp)
end Go.Proofs.YtjlchnmpebdggaaDoor.Mo
end
