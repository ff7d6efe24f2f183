import Derived.Test.YtjlchnmpebdggaaDoorTmr3
import Derived.Test.YtjlchnmpebdggaaDoorTmr4
import Derived.Test.YtjlchnmpebdggaaDoorTmr7
import Derived.Test.YtjlchnmpebdggaaDoorRows
import Derived.Test.YtjlchnmpebdggaaDoorTmr1
import Derived.ProofKit
import Derived.LaidMore
import Derived.OpenShut
import Derived.Stop.Joined
section
namespace Go.Proofs.YtjlchnmpebdggaaDoor.Mo
open Go.RowKit Go.Proofs.YtjlchnmpebdggaaDoorW.PrintWords
attribute [local go_sem high] eqA23
set_option maxHeartbeats 8000000 in
set_option maxRecDepth 100000 in
theorem tomorrow_calls (y m d h mi s z : Int) (w : World) (hL : Laid w) :
    Calls Tryd.prog 6 #[.agg #[.int .i64 (y), .int .i64 (m), .int .i64 (d), .int .i64 (h), .int .i64 (mi), .int .i64 (s), .int .i64 (z)]] w fun e w' => e = .returned (.bool true) ∧ Below w.heap.size w w' := by
  have HL := Lib.hid hL
  clear hL
  cases hv : validB y m d h mi s z with
  | false =>
    have H19 := Lib.hid ((valid_f y m d h mi s z).trans (congrArg some hv))
    have H20 := Lib.hid ((days_f 30000 (by omega) y m d h mi s z).trans (show some (daysV y m d h mi s z) = some 0 from by unfold daysV; rw [hv]; rfl))
    have H21 := Lib.hid ((week_f 30000 (by omega) y m d h mi s z).trans (show some (weekP7 y m d h mi s z) = some 0 from by unfold weekP7; rw [hv]; rfl))
    have H22 := Lib.hid ((stamp_f 30000 (by omega) y m d h mi s z).trans (show some (stampP y m d h mi s z) = some 0 from by unfold stampP; rw [hv]; rfl))
    clear hv
    have HB := Lib.hid (below_alloc (Below.refl _ w) (.cells #[.int .i64 (y), .int .i64 (m), .int .i64 (d), .int .i64 (h), .int .i64 (mi), .int .i64 (s), .int .i64 (z)] 23))
    have HA := Lib.hid (heap_alloc_new w (.cells #[.int .i64 (y), .int .i64 (m), .int .i64 (d), .int .i64 (h), .int .i64 (mi), .int .i64 (s), .int .i64 (z)] 23))
    go_enter Tryd.func6, Tryd.ntmps6
    go_wp2_with fail
    generalize w.alloc (.cells #[.int .i64 (y), .int .i64 (m), .int .i64 (d), .int .i64 (h), .int .i64 (mi), .int .i64 (s), .int .i64 (z)] 23) = w0 at *
    refine (known_calls _ (laid_below HL.out (by repeat (first | (with_reducible exact HB.out) | (with_reducible apply below_drew) | (with_reducible apply pw_below_drewN) | exact HB.out)))).mono ?_
    rintro e w1 ⟨rfl, hb⟩
    have n0_ := Lib.hid (below_step (by repeat (first | (with_reducible exact HB.out) | (with_reducible apply below_drew) | (with_reducible apply pw_below_drewN) | exact HB.out)) hb)
    clear HB
    have HB := n0_
    clear n0_
    have n0_ := Lib.hid ((hb.block _ (blk_lt HA.out)).trans HA.out)
    clear HA
    have HA := n0_
    clear n0_
    clear hb
    obtain ⟨⟨a0, a1, a2, a3, a4, a5, a6⟩, _⟩ := cells7 HA.out
    go_wp2_with fail
    clear a0 a1 a2 a3 a4 a5 a6
    refine (moment_Valid.calls y m d h mi s z false _ H19.out (laid_below HL.out (by repeat (first | (with_reducible exact HB.out) | (with_reducible apply below_drew) | (with_reducible apply pw_below_drewN) | exact HB.out)))).mono ?_
    rintro e w2 ⟨rfl, hb⟩
    have n0_ := Lib.hid (below_step (by repeat (first | (with_reducible exact HB.out) | (with_reducible apply below_drew) | (with_reducible apply pw_below_drewN) | exact HB.out)) hb)
    clear HB
    have HB := n0_
    clear n0_
    have n0_ := Lib.hid ((hb.block _ (blk_lt HA.out)).trans HA.out)
    clear HA
    have HA := n0_
    clear n0_
    clear hb
    obtain ⟨⟨a0, a1, a2, a3, a4, a5, a6⟩, _⟩ := cells7 HA.out
    go_wp2_with fail
    clear a0 a1 a2 a3 a4 a5 a6
    refine (moment_Days.calls 30000 y m d h mi s z 0 _ H20.out (laid_below HL.out (by repeat (first | (with_reducible exact HB.out) | (with_reducible apply below_drew) | (with_reducible apply pw_below_drewN) | exact HB.out)))).mono ?_
    rintro e w3 ⟨rfl, hb⟩
    have n0_ := Lib.hid (below_step (by repeat (first | (with_reducible exact HB.out) | (with_reducible apply below_drew) | (with_reducible apply pw_below_drewN) | exact HB.out)) hb)
    clear HB
    have HB := n0_
    clear n0_
    have n0_ := Lib.hid ((hb.block _ (blk_lt HA.out)).trans HA.out)
    clear HA
    have HA := n0_
    clear n0_
    clear hb
    obtain ⟨⟨a0, a1, a2, a3, a4, a5, a6⟩, _⟩ := cells7 HA.out
    go_wp2_with fail
    clear a0 a1 a2 a3 a4 a5 a6
    refine (moment_Weekday.calls 30000 y m d h mi s z 0 _ H21.out (laid_below HL.out (by repeat (first | (with_reducible exact HB.out) | (with_reducible apply below_drew) | (with_reducible apply pw_below_drewN) | exact HB.out)))).mono ?_
    rintro e w4 ⟨rfl, hb⟩
    have n0_ := Lib.hid (below_step (by repeat (first | (with_reducible exact HB.out) | (with_reducible apply below_drew) | (with_reducible apply pw_below_drewN) | exact HB.out)) hb)
    clear HB
    have HB := n0_
    clear n0_
    have n0_ := Lib.hid ((hb.block _ (blk_lt HA.out)).trans HA.out)
    clear HA
    have HA := n0_
    clear n0_
    clear hb
    obtain ⟨⟨a0, a1, a2, a3, a4, a5, a6⟩, _⟩ := cells7 HA.out
    go_wp2_with fail
    clear a0 a1 a2 a3 a4 a5 a6
    refine (moment_Stamp.calls 30000 y m d h mi s z 0 _ H22.out (laid_below HL.out (by repeat (first | (with_reducible exact HB.out) | (with_reducible apply below_drew) | (with_reducible apply pw_below_drewN) | exact HB.out)))).mono ?_
    rintro e w5 ⟨rfl, hb⟩
    have n0_ := Lib.hid (below_step (by repeat (first | (with_reducible exact HB.out) | (with_reducible apply below_drew) | (with_reducible apply pw_below_drewN) | exact HB.out)) hb)
    clear HB
    have HB := n0_
    clear n0_
    have n0_ := Lib.hid ((hb.block _ (blk_lt HA.out)).trans HA.out)
    clear HA
    have HA := n0_
    clear n0_
    clear hb
    go_wp2
    go_ret
    exact ⟨rfl, HB.out⟩
  | true =>
    have F := (valid_facts hv).1
    have hTA := tom_after hv
    have hTN : ∀ Y M D : Int, morrowP y m d = (Y, M, D) → Y ≤ 9999 → validB Y M D h mi s z = true ∧ daysV Y M D h mi s z = daysV y m d h mi s z + 1 ∧ weekP7 Y M D h mi s z = (weekP7 y m d h mi s z + 1) % 7 ∧ stampP Y M D h mi s z = stampP y m d h mi s z + 86400 := fun _ _ _ q1 q2 => tom_next hv q1 q2
    have hBE := fun w => behind_calls y m d h mi s z F w
    have hFP : y + 400 ≤ 9999 → daysV (y + 400) m d h mi s z = daysV y m d h mi s z + 146097 ∧ weekP7 (y + 400) m d h mi s z = weekP7 y m d h mi s z := fun q => tom_far F.1 q (.inl hv)
    have hFM : 9999 < y + 400 → daysV (y - 400) m d h mi s z + 146097 = daysV y m d h mi s z ∧ weekP7 (y - 400) m d h mi s z = weekP7 y m d h mi s z := by
      intro q
      have e : y - 400 + 400 = y := by omega
      have f := tom_far (y := y - 400) (m := m) (d := d) (h := h) (mi := mi) (s := s) (z := z) (by omega) (by omega) (.inr (by rw [e]; exact hv))
      rw [e] at f
      exact ⟨f.1.symm, f.2.symm⟩
    have wr := week_range y m d h mi s z
    have dr := daysV_range y m d h mi s z
    have sr := stampP_range y m d h mi s z
    have H19 := Lib.hid ((valid_f y m d h mi s z).trans (congrArg some hv))
    have H20 := Lib.hid (days_f 30000 (by omega) y m d h mi s z)
    have H21 := Lib.hid (week_f 30000 (by omega) y m d h mi s z)
    have H22 := Lib.hid (stamp_f 30000 (by omega) y m d h mi s z)
    generalize hWV : weekP7 y m d h mi s z = W at *
    generalize hDV : daysV y m d h mi s z = DV at *
    generalize hSV : stampP y m d h mi s z = S at *
    clear hWV hDV hSV hv
    have hlr := length_range y m F.2.2.1 F.2.2.2.1
    generalize hln : lengthP y m = ln at *
    obtain ⟨b1, b2, b3, b4, b5, b6⟩ := F
    obtain ⟨⟨Y, M, D⟩, hN⟩ : ∃ N : Int × Int × Int, morrowP y m d = N := ⟨_, rfl⟩
    skip
    have hnv : decide (d + 1 ≤ ln) = (y == Y && (m == M && d + 1 == D)) := tom_same hln hN
    clear hln
    by_cases c3 : Y ≤ 9999
    · skip
      rw [hN] at hBE
      have hq := hTN _ _ _ hN (by omega)
      obtain ⟨q1, q2, q3, q4⟩ := hq
      have N19 := Lib.hid ((valid_f Y M D h mi s z).trans (congrArg some q1))
      have N20 := Lib.hid ((days_f 30000 (by omega) Y M D h mi s z).trans (congrArg some q2))
      have N21 := Lib.hid ((week_f 30000 (by omega) Y M D h mi s z).trans (congrArg some q3))
      have N22 := Lib.hid ((stamp_f 30000 (by omega) Y M D h mi s z).trans (congrArg some q4))
      clear q1 q2 q3 q4
      have hdec : decide (Y ≤ 9999) = true := decide_eq_true (by omega)
      dsimp only at hBE
      rw [hdec] at hBE
      clear hdec hTN hN
      have HBE := Lib.hid hBE
      clear hBE
      have P19 := Lib.hid ((valid_f y m (d + 1) h mi s z).trans (congrArg some (hTA.trans hnv)))
      clear hTA hnv
      have HFP := Lib.hid hFP
      have HFM := Lib.hid hFM
      clear hFP hFM
      have wd : IntKind.i64.wrap (d + 1) = d + 1 := IntWalk.i64_in _ ⟨by omega, by omega⟩
      have wy4 : IntKind.i64.wrap (y + 400) = y + 400 := IntWalk.i64_in _ ⟨by omega, by omega⟩
      have wy5 : IntKind.i64.wrap (y - 400) = y - 400 := IntWalk.i64_in _ ⟨by omega, by omega⟩
      have wD1 : IntKind.i64.wrap (DV + 1) = DV + 1 := IntWalk.i64_in _ ⟨by omega, by omega⟩
      have wW1 : IntKind.i64.wrap (W + 1) = W + 1 := IntWalk.i64_in _ ⟨by omega, by omega⟩
      have wS1 : IntKind.i64.wrap (S + 86400) = S + 86400 := IntWalk.i64_in _ ⟨by omega, by omega⟩
      have wD4 : IntKind.i64.wrap (DV + 146097) = DV + 146097 := IntWalk.i64_in _ ⟨by omega, by omega⟩
      have wT : Int.tmod (W + 1) 7 = (W + 1) % 7 := Int.tmod_eq_emod_of_nonneg (by omega)
      have wX : IntKind.i64.wrap ((W + 1) % 7) = (W + 1) % 7 := IntWalk.i64_in _ ⟨by omega, by omega⟩
      have WD_ := Lib.hid wd
      have WY4_ := Lib.hid wy4
      have WY5_ := Lib.hid wy5
      have WD1_ := Lib.hid wD1
      have WW1_ := Lib.hid wW1
      have WS1_ := Lib.hid wS1
      have WD4_ := Lib.hid wD4
      have WT_ := Lib.hid wT
      have WX_ := Lib.hid wX
      clear wd wy4 wy5 wD1 wW1 wS1 wD4 wT wX
      have HDR := Lib.hid dr
      clear dr sr wr
      have HB := Lib.hid (below_alloc (Below.refl _ w) (.cells #[.int .i64 (y), .int .i64 (m), .int .i64 (d), .int .i64 (h), .int .i64 (mi), .int .i64 (s), .int .i64 (z)] 23))
      have HA := Lib.hid (heap_alloc_new w (.cells #[.int .i64 (y), .int .i64 (m), .int .i64 (d), .int .i64 (h), .int .i64 (mi), .int .i64 (s), .int .i64 (z)] 23))
      go_enter Tryd.func6, Tryd.ntmps6
      go_wp2_with fail
      generalize w.alloc (.cells #[.int .i64 (y), .int .i64 (m), .int .i64 (d), .int .i64 (h), .int .i64 (mi), .int .i64 (s), .int .i64 (z)] 23) = w0 at *
      refine (known_calls _ (laid_below HL.out (by repeat (first | (with_reducible exact HB.out) | (with_reducible apply below_drew) | (with_reducible apply pw_below_drewN) | exact HB.out)))).mono ?_
      rintro e w1 ⟨rfl, hb⟩
      have n0_ := Lib.hid (below_step (by repeat (first | (with_reducible exact HB.out) | (with_reducible apply below_drew) | (with_reducible apply pw_below_drewN) | exact HB.out)) hb)
      clear HB
      have HB := n0_
      clear n0_
      have n0_ := Lib.hid ((hb.block _ (blk_lt HA.out)).trans HA.out)
      clear HA
      have HA := n0_
      clear n0_
      clear hb
      obtain ⟨⟨a0, a1, a2, a3, a4, a5, a6⟩, _⟩ := cells7 HA.out
      go_wp2_with fail
      clear a0 a1 a2 a3 a4 a5 a6
      refine (moment_Valid.calls y m d h mi s z true _ H19.out (laid_below HL.out (by repeat (first | (with_reducible exact HB.out) | (with_reducible apply below_drew) | (with_reducible apply pw_below_drewN) | exact HB.out)))).mono ?_
      rintro e w2 ⟨rfl, hb⟩
      have n0_ := Lib.hid (below_step (by repeat (first | (with_reducible exact HB.out) | (with_reducible apply below_drew) | (with_reducible apply pw_below_drewN) | exact HB.out)) hb)
      clear HB
      have HB := n0_
      clear n0_
      have n0_ := Lib.hid ((hb.block _ (blk_lt HA.out)).trans HA.out)
      clear HA
      have HA := n0_
      clear n0_
      clear hb
      obtain ⟨⟨a0, a1, a2, a3, a4, a5, a6⟩, _⟩ := cells7 HA.out
      go_wp2_with fail
      clear a0 a1 a2 a3 a4 a5 a6
      refine (moment_Weekday.calls 30000 y m d h mi s z W _ H21.out (laid_below HL.out (by repeat (first | (with_reducible exact HB.out) | (with_reducible apply below_drew) | (with_reducible apply pw_below_drewN) | exact HB.out)))).mono ?_
      rintro e w3 ⟨rfl, hb⟩
      have n0_ := Lib.hid (below_step (by repeat (first | (with_reducible exact HB.out) | (with_reducible apply below_drew) | (with_reducible apply pw_below_drewN) | exact HB.out)) hb)
      clear HB
      have HB := n0_
      clear n0_
      have n0_ := Lib.hid ((hb.block _ (blk_lt HA.out)).trans HA.out)
      clear HA
      have HA := n0_
      clear n0_
      clear hb
      obtain ⟨⟨a0, a1, a2, a3, a4, a5, a6⟩, _⟩ := cells7 HA.out
      go_wp2_with fail
      clear a0 a1 a2 a3 a4 a5 a6
      refine (HBE.out _).mono ?_
      rintro e w4 ⟨rfl, hb⟩
      have n0_ := Lib.hid (below_step (by repeat (first | (with_reducible exact HB.out) | (with_reducible apply below_drew) | (with_reducible apply pw_below_drewN) | exact HB.out)) hb)
      clear HB
      have HB := n0_
      clear n0_
      have n0_ := Lib.hid ((hb.block _ (blk_lt HA.out)).trans HA.out)
      clear HA
      have HA := n0_
      clear n0_
      clear hb
      go_upto_region 7 with fail
      have n1_ := Lib.hid (heap_alloc_new w4 (.cells #[.int .i64 (Y), .int .i64 (M), .int .i64 (D), .int .i64 (h), .int .i64 (mi), .int .i64 (s), .int .i64 (z)] 23))
      have n0_ := Lib.hid ((Below.heap_alloc w4 (.cells #[.int .i64 (Y), .int .i64 (M), .int .i64 (D), .int .i64 (h), .int .i64 (mi), .int .i64 (s), .int .i64 (z)] 23) _ (blk_lt HA.out)).trans HA.out)
      clear HA
      have HA := n0_
      clear n0_
      have HX := n1_
      clear n1_
      have n0_ := Lib.hid (below_alloc HB.out (.cells #[.int .i64 (Y), .int .i64 (M), .int .i64 (D), .int .i64 (h), .int .i64 (mi), .int .i64 (s), .int .i64 (z)] 23))
      clear HB
      have HB := n0_
      clear n0_
      generalize w4.alloc (.cells #[.int .i64 (Y), .int .i64 (M), .int .i64 (D), .int .i64 (h), .int .i64 (mi), .int .i64 (s), .int .i64 (z)] 23) = w5 at *
      generalize w4.heap.size = g1 at *
      go_cut [62] (fun v62 wc => v62 = .bool false ∧ Aside0 (Below w.heap.size w wc ∧ wc.heap[w.heap.size]? = some (.cells #[.int .i64 (y), .int .i64 (m), .int .i64 (d), .int .i64 (h), .int .i64 (mi), .int .i64 (s), .int .i64 (z)] 23) ∧ wc.heap[g1]? = some (.cells #[.int .i64 (Y), .int .i64 (M), .int .i64 (D), .int .i64 (h), .int .i64 (mi), .int .i64 (s), .int .i64 (z)] 23)))
      case first =>
        obtain ⟨⟨k0, k1, k2, k3, k4, k5, k6⟩, _⟩ := cells7 HA.out
        obtain ⟨⟨k7, k8, k9, k10, k11, k12, k13⟩, _⟩ := cells7 HX.out
        have wD1 := WD1_.out
        have wW1 := WW1_.out
        have wS1 := WS1_.out
        have wT := WT_.out
        have wX := WX_.out
        go_region_held3 (fun w' => w'.cell? ⟨w.heap.size, 0, none⟩ = some (.int .i64 (y)) ∧ w'.cell? ⟨w.heap.size, 1, none⟩ = some (.int .i64 (m)) ∧ w'.cell? ⟨w.heap.size, 2, none⟩ = some (.int .i64 (d)) ∧ w'.cell? ⟨w.heap.size, 3, none⟩ = some (.int .i64 (h)) ∧ w'.cell? ⟨w.heap.size, 4, none⟩ = some (.int .i64 (mi)) ∧ w'.cell? ⟨w.heap.size, 5, none⟩ = some (.int .i64 (s)) ∧ w'.cell? ⟨w.heap.size, 6, none⟩ = some (.int .i64 (z)) ∧ w'.cell? ⟨g1, 0, none⟩ = some (.int .i64 (Y)) ∧ w'.cell? ⟨g1, 1, none⟩ = some (.int .i64 (M)) ∧ w'.cell? ⟨g1, 2, none⟩ = some (.int .i64 (D)) ∧ w'.cell? ⟨g1, 3, none⟩ = some (.int .i64 (h)) ∧ w'.cell? ⟨g1, 4, none⟩ = some (.int .i64 (mi)) ∧ w'.cell? ⟨g1, 5, none⟩ = some (.int .i64 (s)) ∧ w'.cell? ⟨g1, 6, none⟩ = some (.int .i64 (z))) (go_keep) ((first | (go_at_call 19; (with_reducible refine (moment_Valid.calls Y M D h mi s z true _ N19.out (laid_below HL.out (by repeat (first | (with_reducible exact HB.out) | (with_reducible apply below_drew) | (with_reducible apply pw_below_drewN) | exact HB.out)))).mono ?_); rintro e w19_ ⟨rfl, hb⟩; have n0_ := Lib.hid (below_step (by repeat (first | (with_reducible exact HB.out) | (with_reducible apply below_drew) | (with_reducible apply pw_below_drewN) | exact HB.out)) hb); clear HB; have HB := n0_; clear n0_; have n0_ := Lib.hid ((hb.block _ (blk_lt HA.out)).trans (by (with_reducible repeat (first | refine blk_drewN ?_ _ | refine blk_drew ?_ | refine blk_alloc ?_ _)); exact HA.out)); clear HA; have HA := n0_; clear n0_; have n0_ := Lib.hid ((hb.block _ (blk_lt HX.out)).trans (by (with_reducible repeat (first | refine blk_drewN ?_ _ | refine blk_drew ?_ | refine blk_alloc ?_ _)); exact HX.out)); clear HX; have HX := n0_; clear n0_; have k0 := pw_cell_below hb (a := ⟨w.heap.size, 0, none⟩) (v := .int .i64 (y)) (by first | assumption | go_simp); have k1 := pw_cell_below hb (a := ⟨w.heap.size, 1, none⟩) (v := .int .i64 (m)) (by first | assumption | go_simp); have k2 := pw_cell_below hb (a := ⟨w.heap.size, 2, none⟩) (v := .int .i64 (d)) (by first | assumption | go_simp); have k3 := pw_cell_below hb (a := ⟨w.heap.size, 3, none⟩) (v := .int .i64 (h)) (by first | assumption | go_simp); have k4 := pw_cell_below hb (a := ⟨w.heap.size, 4, none⟩) (v := .int .i64 (mi)) (by first | assumption | go_simp); have k5 := pw_cell_below hb (a := ⟨w.heap.size, 5, none⟩) (v := .int .i64 (s)) (by first | assumption | go_simp); have k6 := pw_cell_below hb (a := ⟨w.heap.size, 6, none⟩) (v := .int .i64 (z)) (by first | assumption | go_simp); have k7 := pw_cell_below hb (a := ⟨g1, 0, none⟩) (v := .int .i64 (Y)) (by first | assumption | go_simp); have k8 := pw_cell_below hb (a := ⟨g1, 1, none⟩) (v := .int .i64 (M)) (by first | assumption | go_simp); have k9 := pw_cell_below hb (a := ⟨g1, 2, none⟩) (v := .int .i64 (D)) (by first | assumption | go_simp); have k10 := pw_cell_below hb (a := ⟨g1, 3, none⟩) (v := .int .i64 (h)) (by first | assumption | go_simp); have k11 := pw_cell_below hb (a := ⟨g1, 4, none⟩) (v := .int .i64 (mi)) (by first | assumption | go_simp); have k12 := pw_cell_below hb (a := ⟨g1, 5, none⟩) (v := .int .i64 (s)) (by first | assumption | go_simp); have k13 := pw_cell_below hb (a := ⟨g1, 6, none⟩) (v := .int .i64 (z)) (by first | assumption | go_simp); clear hb) | (go_at_call 20; (with_reducible refine (moment_Days.calls 30000 Y M D h mi s z (DV + 1) _ N20.out (laid_below HL.out (by repeat (first | (with_reducible exact HB.out) | (with_reducible apply below_drew) | (with_reducible apply pw_below_drewN) | exact HB.out)))).mono ?_); rintro e w20_ ⟨rfl, hb⟩; have n0_ := Lib.hid (below_step (by repeat (first | (with_reducible exact HB.out) | (with_reducible apply below_drew) | (with_reducible apply pw_below_drewN) | exact HB.out)) hb); clear HB; have HB := n0_; clear n0_; have n0_ := Lib.hid ((hb.block _ (blk_lt HA.out)).trans (by (with_reducible repeat (first | refine blk_drewN ?_ _ | refine blk_drew ?_ | refine blk_alloc ?_ _)); exact HA.out)); clear HA; have HA := n0_; clear n0_; have n0_ := Lib.hid ((hb.block _ (blk_lt HX.out)).trans (by (with_reducible repeat (first | refine blk_drewN ?_ _ | refine blk_drew ?_ | refine blk_alloc ?_ _)); exact HX.out)); clear HX; have HX := n0_; clear n0_; have k0 := pw_cell_below hb (a := ⟨w.heap.size, 0, none⟩) (v := .int .i64 (y)) (by first | assumption | go_simp); have k1 := pw_cell_below hb (a := ⟨w.heap.size, 1, none⟩) (v := .int .i64 (m)) (by first | assumption | go_simp); have k2 := pw_cell_below hb (a := ⟨w.heap.size, 2, none⟩) (v := .int .i64 (d)) (by first | assumption | go_simp); have k3 := pw_cell_below hb (a := ⟨w.heap.size, 3, none⟩) (v := .int .i64 (h)) (by first | assumption | go_simp); have k4 := pw_cell_below hb (a := ⟨w.heap.size, 4, none⟩) (v := .int .i64 (mi)) (by first | assumption | go_simp); have k5 := pw_cell_below hb (a := ⟨w.heap.size, 5, none⟩) (v := .int .i64 (s)) (by first | assumption | go_simp); have k6 := pw_cell_below hb (a := ⟨w.heap.size, 6, none⟩) (v := .int .i64 (z)) (by first | assumption | go_simp); have k7 := pw_cell_below hb (a := ⟨g1, 0, none⟩) (v := .int .i64 (Y)) (by first | assumption | go_simp); have k8 := pw_cell_below hb (a := ⟨g1, 1, none⟩) (v := .int .i64 (M)) (by first | assumption | go_simp); have k9 := pw_cell_below hb (a := ⟨g1, 2, none⟩) (v := .int .i64 (D)) (by first | assumption | go_simp); have k10 := pw_cell_below hb (a := ⟨g1, 3, none⟩) (v := .int .i64 (h)) (by first | assumption | go_simp); have k11 := pw_cell_below hb (a := ⟨g1, 4, none⟩) (v := .int .i64 (mi)) (by first | assumption | go_simp); have k12 := pw_cell_below hb (a := ⟨g1, 5, none⟩) (v := .int .i64 (s)) (by first | assumption | go_simp); have k13 := pw_cell_below hb (a := ⟨g1, 6, none⟩) (v := .int .i64 (z)) (by first | assumption | go_simp); clear hb) | (go_at_call 20; (with_reducible refine (moment_Days.calls 30000 y m d h mi s z DV _ H20.out (laid_below HL.out (by repeat (first | (with_reducible exact HB.out) | (with_reducible apply below_drew) | (with_reducible apply pw_below_drewN) | exact HB.out)))).mono ?_); rintro e w20_ ⟨rfl, hb⟩; have n0_ := Lib.hid (below_step (by repeat (first | (with_reducible exact HB.out) | (with_reducible apply below_drew) | (with_reducible apply pw_below_drewN) | exact HB.out)) hb); clear HB; have HB := n0_; clear n0_; have n0_ := Lib.hid ((hb.block _ (blk_lt HA.out)).trans (by (with_reducible repeat (first | refine blk_drewN ?_ _ | refine blk_drew ?_ | refine blk_alloc ?_ _)); exact HA.out)); clear HA; have HA := n0_; clear n0_; have n0_ := Lib.hid ((hb.block _ (blk_lt HX.out)).trans (by (with_reducible repeat (first | refine blk_drewN ?_ _ | refine blk_drew ?_ | refine blk_alloc ?_ _)); exact HX.out)); clear HX; have HX := n0_; clear n0_; have k0 := pw_cell_below hb (a := ⟨w.heap.size, 0, none⟩) (v := .int .i64 (y)) (by first | assumption | go_simp); have k1 := pw_cell_below hb (a := ⟨w.heap.size, 1, none⟩) (v := .int .i64 (m)) (by first | assumption | go_simp); have k2 := pw_cell_below hb (a := ⟨w.heap.size, 2, none⟩) (v := .int .i64 (d)) (by first | assumption | go_simp); have k3 := pw_cell_below hb (a := ⟨w.heap.size, 3, none⟩) (v := .int .i64 (h)) (by first | assumption | go_simp); have k4 := pw_cell_below hb (a := ⟨w.heap.size, 4, none⟩) (v := .int .i64 (mi)) (by first | assumption | go_simp); have k5 := pw_cell_below hb (a := ⟨w.heap.size, 5, none⟩) (v := .int .i64 (s)) (by first | assumption | go_simp); have k6 := pw_cell_below hb (a := ⟨w.heap.size, 6, none⟩) (v := .int .i64 (z)) (by first | assumption | go_simp); have k7 := pw_cell_below hb (a := ⟨g1, 0, none⟩) (v := .int .i64 (Y)) (by first | assumption | go_simp); have k8 := pw_cell_below hb (a := ⟨g1, 1, none⟩) (v := .int .i64 (M)) (by first | assumption | go_simp); have k9 := pw_cell_below hb (a := ⟨g1, 2, none⟩) (v := .int .i64 (D)) (by first | assumption | go_simp); have k10 := pw_cell_below hb (a := ⟨g1, 3, none⟩) (v := .int .i64 (h)) (by first | assumption | go_simp); have k11 := pw_cell_below hb (a := ⟨g1, 4, none⟩) (v := .int .i64 (mi)) (by first | assumption | go_simp); have k12 := pw_cell_below hb (a := ⟨g1, 5, none⟩) (v := .int .i64 (s)) (by first | assumption | go_simp); have k13 := pw_cell_below hb (a := ⟨g1, 6, none⟩) (v := .int .i64 (z)) (by first | assumption | go_simp); clear hb) | (go_at_call 21; (with_reducible refine (moment_Weekday.calls 30000 Y M D h mi s z ((W + 1) % 7) _ N21.out (laid_below HL.out (by repeat (first | (with_reducible exact HB.out) | (with_reducible apply below_drew) | (with_reducible apply pw_below_drewN) | exact HB.out)))).mono ?_); rintro e w21_ ⟨rfl, hb⟩; have n0_ := Lib.hid (below_step (by repeat (first | (with_reducible exact HB.out) | (with_reducible apply below_drew) | (with_reducible apply pw_below_drewN) | exact HB.out)) hb); clear HB; have HB := n0_; clear n0_; have n0_ := Lib.hid ((hb.block _ (blk_lt HA.out)).trans (by (with_reducible repeat (first | refine blk_drewN ?_ _ | refine blk_drew ?_ | refine blk_alloc ?_ _)); exact HA.out)); clear HA; have HA := n0_; clear n0_; have n0_ := Lib.hid ((hb.block _ (blk_lt HX.out)).trans (by (with_reducible repeat (first | refine blk_drewN ?_ _ | refine blk_drew ?_ | refine blk_alloc ?_ _)); exact HX.out)); clear HX; have HX := n0_; clear n0_; have k0 := pw_cell_below hb (a := ⟨w.heap.size, 0, none⟩) (v := .int .i64 (y)) (by first | assumption | go_simp); have k1 := pw_cell_below hb (a := ⟨w.heap.size, 1, none⟩) (v := .int .i64 (m)) (by first | assumption | go_simp); have k2 := pw_cell_below hb (a := ⟨w.heap.size, 2, none⟩) (v := .int .i64 (d)) (by first | assumption | go_simp); have k3 := pw_cell_below hb (a := ⟨w.heap.size, 3, none⟩) (v := .int .i64 (h)) (by first | assumption | go_simp); have k4 := pw_cell_below hb (a := ⟨w.heap.size, 4, none⟩) (v := .int .i64 (mi)) (by first | assumption | go_simp); have k5 := pw_cell_below hb (a := ⟨w.heap.size, 5, none⟩) (v := .int .i64 (s)) (by first | assumption | go_simp); have k6 := pw_cell_below hb (a := ⟨w.heap.size, 6, none⟩) (v := .int .i64 (z)) (by first | assumption | go_simp); have k7 := pw_cell_below hb (a := ⟨g1, 0, none⟩) (v := .int .i64 (Y)) (by first | assumption | go_simp); have k8 := pw_cell_below hb (a := ⟨g1, 1, none⟩) (v := .int .i64 (M)) (by first | assumption | go_simp); have k9 := pw_cell_below hb (a := ⟨g1, 2, none⟩) (v := .int .i64 (D)) (by first | assumption | go_simp); have k10 := pw_cell_below hb (a := ⟨g1, 3, none⟩) (v := .int .i64 (h)) (by first | assumption | go_simp); have k11 := pw_cell_below hb (a := ⟨g1, 4, none⟩) (v := .int .i64 (mi)) (by first | assumption | go_simp); have k12 := pw_cell_below hb (a := ⟨g1, 5, none⟩) (v := .int .i64 (s)) (by first | assumption | go_simp); have k13 := pw_cell_below hb (a := ⟨g1, 6, none⟩) (v := .int .i64 (z)) (by first | assumption | go_simp); clear hb) | (go_at_call 22; (with_reducible refine (moment_Stamp.calls 30000 Y M D h mi s z (S + 86400) _ N22.out (laid_below HL.out (by repeat (first | (with_reducible exact HB.out) | (with_reducible apply below_drew) | (with_reducible apply pw_below_drewN) | exact HB.out)))).mono ?_); rintro e w22_ ⟨rfl, hb⟩; have n0_ := Lib.hid (below_step (by repeat (first | (with_reducible exact HB.out) | (with_reducible apply below_drew) | (with_reducible apply pw_below_drewN) | exact HB.out)) hb); clear HB; have HB := n0_; clear n0_; have n0_ := Lib.hid ((hb.block _ (blk_lt HA.out)).trans (by (with_reducible repeat (first | refine blk_drewN ?_ _ | refine blk_drew ?_ | refine blk_alloc ?_ _)); exact HA.out)); clear HA; have HA := n0_; clear n0_; have n0_ := Lib.hid ((hb.block _ (blk_lt HX.out)).trans (by (with_reducible repeat (first | refine blk_drewN ?_ _ | refine blk_drew ?_ | refine blk_alloc ?_ _)); exact HX.out)); clear HX; have HX := n0_; clear n0_; have k0 := pw_cell_below hb (a := ⟨w.heap.size, 0, none⟩) (v := .int .i64 (y)) (by first | assumption | go_simp); have k1 := pw_cell_below hb (a := ⟨w.heap.size, 1, none⟩) (v := .int .i64 (m)) (by first | assumption | go_simp); have k2 := pw_cell_below hb (a := ⟨w.heap.size, 2, none⟩) (v := .int .i64 (d)) (by first | assumption | go_simp); have k3 := pw_cell_below hb (a := ⟨w.heap.size, 3, none⟩) (v := .int .i64 (h)) (by first | assumption | go_simp); have k4 := pw_cell_below hb (a := ⟨w.heap.size, 4, none⟩) (v := .int .i64 (mi)) (by first | assumption | go_simp); have k5 := pw_cell_below hb (a := ⟨w.heap.size, 5, none⟩) (v := .int .i64 (s)) (by first | assumption | go_simp); have k6 := pw_cell_below hb (a := ⟨w.heap.size, 6, none⟩) (v := .int .i64 (z)) (by first | assumption | go_simp); have k7 := pw_cell_below hb (a := ⟨g1, 0, none⟩) (v := .int .i64 (Y)) (by first | assumption | go_simp); have k8 := pw_cell_below hb (a := ⟨g1, 1, none⟩) (v := .int .i64 (M)) (by first | assumption | go_simp); have k9 := pw_cell_below hb (a := ⟨g1, 2, none⟩) (v := .int .i64 (D)) (by first | assumption | go_simp); have k10 := pw_cell_below hb (a := ⟨g1, 3, none⟩) (v := .int .i64 (h)) (by first | assumption | go_simp); have k11 := pw_cell_below hb (a := ⟨g1, 4, none⟩) (v := .int .i64 (mi)) (by first | assumption | go_simp); have k12 := pw_cell_below hb (a := ⟨g1, 5, none⟩) (v := .int .i64 (s)) (by first | assumption | go_simp); have k13 := pw_cell_below hb (a := ⟨g1, 6, none⟩) (v := .int .i64 (z)) (by first | assumption | go_simp); clear hb) | (go_at_call 22; (with_reducible refine (moment_Stamp.calls 30000 y m d h mi s z S _ H22.out (laid_below HL.out (by repeat (first | (with_reducible exact HB.out) | (with_reducible apply below_drew) | (with_reducible apply pw_below_drewN) | exact HB.out)))).mono ?_); rintro e w22_ ⟨rfl, hb⟩; have n0_ := Lib.hid (below_step (by repeat (first | (with_reducible exact HB.out) | (with_reducible apply below_drew) | (with_reducible apply pw_below_drewN) | exact HB.out)) hb); clear HB; have HB := n0_; clear n0_; have n0_ := Lib.hid ((hb.block _ (blk_lt HA.out)).trans (by (with_reducible repeat (first | refine blk_drewN ?_ _ | refine blk_drew ?_ | refine blk_alloc ?_ _)); exact HA.out)); clear HA; have HA := n0_; clear n0_; have n0_ := Lib.hid ((hb.block _ (blk_lt HX.out)).trans (by (with_reducible repeat (first | refine blk_drewN ?_ _ | refine blk_drew ?_ | refine blk_alloc ?_ _)); exact HX.out)); clear HX; have HX := n0_; clear n0_; have k0 := pw_cell_below hb (a := ⟨w.heap.size, 0, none⟩) (v := .int .i64 (y)) (by first | assumption | go_simp); have k1 := pw_cell_below hb (a := ⟨w.heap.size, 1, none⟩) (v := .int .i64 (m)) (by first | assumption | go_simp); have k2 := pw_cell_below hb (a := ⟨w.heap.size, 2, none⟩) (v := .int .i64 (d)) (by first | assumption | go_simp); have k3 := pw_cell_below hb (a := ⟨w.heap.size, 3, none⟩) (v := .int .i64 (h)) (by first | assumption | go_simp); have k4 := pw_cell_below hb (a := ⟨w.heap.size, 4, none⟩) (v := .int .i64 (mi)) (by first | assumption | go_simp); have k5 := pw_cell_below hb (a := ⟨w.heap.size, 5, none⟩) (v := .int .i64 (s)) (by first | assumption | go_simp); have k6 := pw_cell_below hb (a := ⟨w.heap.size, 6, none⟩) (v := .int .i64 (z)) (by first | assumption | go_simp); have k7 := pw_cell_below hb (a := ⟨g1, 0, none⟩) (v := .int .i64 (Y)) (by first | assumption | go_simp); have k8 := pw_cell_below hb (a := ⟨g1, 1, none⟩) (v := .int .i64 (M)) (by first | assumption | go_simp); have k9 := pw_cell_below hb (a := ⟨g1, 2, none⟩) (v := .int .i64 (D)) (by first | assumption | go_simp); have k10 := pw_cell_below hb (a := ⟨g1, 3, none⟩) (v := .int .i64 (h)) (by first | assumption | go_simp); have k11 := pw_cell_below hb (a := ⟨g1, 4, none⟩) (v := .int .i64 (mi)) (by first | assumption | go_simp); have k12 := pw_cell_below hb (a := ⟨g1, 5, none⟩) (v := .int .i64 (s)) (by first | assumption | go_simp); have k13 := pw_cell_below hb (a := ⟨g1, 6, none⟩) (v := .int .i64 (z)) (by first | assumption | go_simp); clear hb)))
        all_goals go_wp2
        all_goals go_meet
        all_goals exact ⟨rfl, ⟨(by repeat (first | (with_reducible exact HB.out) | (with_reducible apply below_drew) | (with_reducible apply pw_below_drewN) | exact HB.out)), (by (with_reducible repeat (first | refine blk_drewN ?_ _ | refine blk_drew ?_ | refine blk_alloc ?_ _)); exact HA.out), (by (with_reducible repeat (first | refine blk_drewN ?_ _ | refine blk_drew ?_ | refine blk_alloc ?_ _)); exact HX.out)⟩⟩
      case rest =>
        obtain ⟨rfl, HQ⟩ := hcut
        clear HB HA HX
        have HB := Lib.hid HQ.out.1
        have HA := Lib.hid HQ.out.2.1
        have HX := Lib.hid HQ.out.2.2
        clear HQ
        obtain ⟨⟨k0, k1, k2, k3, k4, k5, k6⟩, _⟩ := cells7 HA.out
        have wd := WD_.out
        go_upto_region 11 with fail
        clear k0 k1 k2 k3 k4 k5 k6 wd
        have n1_ := Lib.hid (heap_alloc_new wc (.cells #[.int .i64 (y), .int .i64 (m), .int .i64 (d + 1), .int .i64 (h), .int .i64 (mi), .int .i64 (s), .int .i64 (z)] 23))
        have n0_ := Lib.hid ((Below.heap_alloc wc (.cells #[.int .i64 (y), .int .i64 (m), .int .i64 (d + 1), .int .i64 (h), .int .i64 (mi), .int .i64 (s), .int .i64 (z)] 23) _ (blk_lt HA.out)).trans HA.out)
        clear HA
        have HA := n0_
        clear n0_
        have n0_ := Lib.hid ((Below.heap_alloc wc (.cells #[.int .i64 (y), .int .i64 (m), .int .i64 (d + 1), .int .i64 (h), .int .i64 (mi), .int .i64 (s), .int .i64 (z)] 23) _ (blk_lt HX.out)).trans HX.out)
        clear HX
        have HX := n0_
        clear n0_
        have HY := n1_
        clear n1_
        have n0_ := Lib.hid (below_alloc HB.out (.cells #[.int .i64 (y), .int .i64 (m), .int .i64 (d + 1), .int .i64 (h), .int .i64 (mi), .int .i64 (s), .int .i64 (z)] 23))
        clear HB
        have HB := n0_
        clear n0_
        generalize wc.alloc (.cells #[.int .i64 (y), .int .i64 (m), .int .i64 (d + 1), .int .i64 (h), .int .i64 (mi), .int .i64 (s), .int .i64 (z)] 23) = w6 at *
        generalize wc.heap.size = g2 at *
        go_cut [73] (fun v73 wc => v73 = .bool false ∧ Aside0 (Below w.heap.size w wc ∧ wc.heap[w.heap.size]? = some (.cells #[.int .i64 (y), .int .i64 (m), .int .i64 (d), .int .i64 (h), .int .i64 (mi), .int .i64 (s), .int .i64 (z)] 23)))
        case first =>
          obtain ⟨⟨k0, k1, k2, k3, k4, k5, k6⟩, _⟩ := cells7 HY.out
          obtain ⟨⟨k7, k8, k9, k10, k11, k12, k13⟩, _⟩ := cells7 HX.out
          go_region_held3 (fun w' => w'.cell? ⟨g2, 0, none⟩ = some (.int .i64 (y)) ∧ w'.cell? ⟨g2, 1, none⟩ = some (.int .i64 (m)) ∧ w'.cell? ⟨g2, 2, none⟩ = some (.int .i64 (d + 1)) ∧ w'.cell? ⟨g2, 3, none⟩ = some (.int .i64 (h)) ∧ w'.cell? ⟨g2, 4, none⟩ = some (.int .i64 (mi)) ∧ w'.cell? ⟨g2, 5, none⟩ = some (.int .i64 (s)) ∧ w'.cell? ⟨g2, 6, none⟩ = some (.int .i64 (z)) ∧ w'.cell? ⟨g1, 0, none⟩ = some (.int .i64 (Y)) ∧ w'.cell? ⟨g1, 1, none⟩ = some (.int .i64 (M)) ∧ w'.cell? ⟨g1, 2, none⟩ = some (.int .i64 (D)) ∧ w'.cell? ⟨g1, 3, none⟩ = some (.int .i64 (h)) ∧ w'.cell? ⟨g1, 4, none⟩ = some (.int .i64 (mi)) ∧ w'.cell? ⟨g1, 5, none⟩ = some (.int .i64 (s)) ∧ w'.cell? ⟨g1, 6, none⟩ = some (.int .i64 (z))) (go_keep) ((first | (go_at_call 19; (with_reducible refine (moment_Valid.calls y m (d + 1) h mi s z (y == Y && (m == M && d + 1 == D)) _ P19.out (laid_below HL.out (by repeat (first | (with_reducible exact HB.out) | (with_reducible apply below_drew) | (with_reducible apply pw_below_drewN) | exact HB.out)))).mono ?_); rintro e w19_ ⟨rfl, hb⟩; have n0_ := Lib.hid (below_step (by repeat (first | (with_reducible exact HB.out) | (with_reducible apply below_drew) | (with_reducible apply pw_below_drewN) | exact HB.out)) hb); clear HB; have HB := n0_; clear n0_; have n0_ := Lib.hid ((hb.block _ (blk_lt HA.out)).trans (by (with_reducible repeat (first | refine blk_drewN ?_ _ | refine blk_drew ?_ | refine blk_alloc ?_ _)); exact HA.out)); clear HA; have HA := n0_; clear n0_; have k0 := pw_cell_below hb (a := ⟨g2, 0, none⟩) (v := .int .i64 (y)) (by first | assumption | go_simp); have k1 := pw_cell_below hb (a := ⟨g2, 1, none⟩) (v := .int .i64 (m)) (by first | assumption | go_simp); have k2 := pw_cell_below hb (a := ⟨g2, 2, none⟩) (v := .int .i64 (d + 1)) (by first | assumption | go_simp); have k3 := pw_cell_below hb (a := ⟨g2, 3, none⟩) (v := .int .i64 (h)) (by first | assumption | go_simp); have k4 := pw_cell_below hb (a := ⟨g2, 4, none⟩) (v := .int .i64 (mi)) (by first | assumption | go_simp); have k5 := pw_cell_below hb (a := ⟨g2, 5, none⟩) (v := .int .i64 (s)) (by first | assumption | go_simp); have k6 := pw_cell_below hb (a := ⟨g2, 6, none⟩) (v := .int .i64 (z)) (by first | assumption | go_simp); have k7 := pw_cell_below hb (a := ⟨g1, 0, none⟩) (v := .int .i64 (Y)) (by first | assumption | go_simp); have k8 := pw_cell_below hb (a := ⟨g1, 1, none⟩) (v := .int .i64 (M)) (by first | assumption | go_simp); have k9 := pw_cell_below hb (a := ⟨g1, 2, none⟩) (v := .int .i64 (D)) (by first | assumption | go_simp); have k10 := pw_cell_below hb (a := ⟨g1, 3, none⟩) (v := .int .i64 (h)) (by first | assumption | go_simp); have k11 := pw_cell_below hb (a := ⟨g1, 4, none⟩) (v := .int .i64 (mi)) (by first | assumption | go_simp); have k12 := pw_cell_below hb (a := ⟨g1, 5, none⟩) (v := .int .i64 (s)) (by first | assumption | go_simp); have k13 := pw_cell_below hb (a := ⟨g1, 6, none⟩) (v := .int .i64 (z)) (by first | assumption | go_simp); clear hb)))
          all_goals go_wp2
          all_goals go_meet
          all_goals exact ⟨rfl, ⟨(by repeat (first | (with_reducible exact HB.out) | (with_reducible apply below_drew) | (with_reducible apply pw_below_drewN) | exact HB.out)), (by (with_reducible repeat (first | refine blk_drewN ?_ _ | refine blk_drew ?_ | refine blk_alloc ?_ _)); exact HA.out)⟩⟩
        case rest =>
          obtain ⟨rfl, HQ⟩ := hcut
          clear HB HA HX HY
          have HB := Lib.hid HQ.out.1
          have HA := Lib.hid HQ.out.2
          clear HQ
          have dr := HDR.out
          by_cases cf : 9999 < y + 400
          · skip
            have G20 := Lib.hid (days_f 30000 (by omega) (y - 400) m d h mi s z)
            have hq := (HFM.out cf).1
            generalize daysV (y - 400) m d h mi s z = DF at *
            have wDF : IntKind.i64.wrap (DF + 146097) = DV := by rw [hq]; exact IntWalk.i64_in _ ⟨by omega, by omega⟩
            have WDF_ := Lib.hid wDF
            clear wDF hq
            have G21 := Lib.hid ((week_f 30000 (by omega) (y - 400) m d h mi s z).trans (congrArg some (HFM.out cf).2))
            clear dr HFM HFP
            obtain ⟨⟨k0, k1, k2, k3, k4, k5, k6⟩, _⟩ := cells7 HA.out
            have wy4 := WY4_.out
            have wy5 := WY5_.out
            obtain ⟨⟨i0, _⟩, _⟩ := cells7 ((Below.heap_alloc wc (.cells #[.int .i64 (y), .int .i64 (m), .int .i64 (d), .int .i64 (h), .int .i64 (mi), .int .i64 (s), .int .i64 (z)] 23) _ (blk_lt HA.out)).trans HA.out)
            obtain ⟨⟨j0, _⟩, _⟩ := cells7 ((Below.heap_alloc wc (.cells #[.int .i64 (y + 400), .int .i64 (m), .int .i64 (d), .int .i64 (h), .int .i64 (mi), .int .i64 (s), .int .i64 (z)] 23) _ (blk_lt HA.out)).trans HA.out)
            go_upto_region 17 with fail
            clear i0 j0 k0 k1 k2 k3 k4 k5 k6 wy4 wy5
            have n1_ := Lib.hid (heap_alloc_new wc (.cells #[.int .i64 (y - 400), .int .i64 (m), .int .i64 (d), .int .i64 (h), .int .i64 (mi), .int .i64 (s), .int .i64 (z)] 23))
            have n0_ := Lib.hid ((Below.heap_alloc wc (.cells #[.int .i64 (y - 400), .int .i64 (m), .int .i64 (d), .int .i64 (h), .int .i64 (mi), .int .i64 (s), .int .i64 (z)] 23) _ (blk_lt HA.out)).trans HA.out)
            clear HA
            have HA := n0_
            clear n0_
            have HZ := n1_
            clear n1_
            have n0_ := Lib.hid (below_alloc HB.out (.cells #[.int .i64 (y - 400), .int .i64 (m), .int .i64 (d), .int .i64 (h), .int .i64 (mi), .int .i64 (s), .int .i64 (z)] 23))
            clear HB
            have HB := n0_
            clear n0_
            generalize wc.alloc (.cells #[.int .i64 (y - 400), .int .i64 (m), .int .i64 (d), .int .i64 (h), .int .i64 (mi), .int .i64 (s), .int .i64 (z)] 23) = w7 at *
            generalize wc.heap.size = g3 at *
            obtain ⟨⟨k0, k1, k2, k3, k4, k5, k6⟩, _⟩ := cells7 HA.out
            obtain ⟨⟨k7, k8, k9, k10, k11, k12, k13⟩, _⟩ := cells7 HZ.out
            have wDF := WDF_.out
            go_region_held3 (fun w' => w'.cell? ⟨w.heap.size, 0, none⟩ = some (.int .i64 (y)) ∧ w'.cell? ⟨w.heap.size, 1, none⟩ = some (.int .i64 (m)) ∧ w'.cell? ⟨w.heap.size, 2, none⟩ = some (.int .i64 (d)) ∧ w'.cell? ⟨w.heap.size, 3, none⟩ = some (.int .i64 (h)) ∧ w'.cell? ⟨w.heap.size, 4, none⟩ = some (.int .i64 (mi)) ∧ w'.cell? ⟨w.heap.size, 5, none⟩ = some (.int .i64 (s)) ∧ w'.cell? ⟨w.heap.size, 6, none⟩ = some (.int .i64 (z)) ∧ w'.cell? ⟨g3, 0, none⟩ = some (.int .i64 (y - 400)) ∧ w'.cell? ⟨g3, 1, none⟩ = some (.int .i64 (m)) ∧ w'.cell? ⟨g3, 2, none⟩ = some (.int .i64 (d)) ∧ w'.cell? ⟨g3, 3, none⟩ = some (.int .i64 (h)) ∧ w'.cell? ⟨g3, 4, none⟩ = some (.int .i64 (mi)) ∧ w'.cell? ⟨g3, 5, none⟩ = some (.int .i64 (s)) ∧ w'.cell? ⟨g3, 6, none⟩ = some (.int .i64 (z))) (go_keep) ((first | (go_at_call 20; (with_reducible refine (moment_Days.calls 30000 (y - 400) m d h mi s z DF _ G20.out (laid_below HL.out (by repeat (first | (with_reducible exact HB.out) | (with_reducible apply below_drew) | (with_reducible apply pw_below_drewN) | exact HB.out)))).mono ?_); rintro e w20_ ⟨rfl, hb⟩; have n0_ := Lib.hid (below_step (by repeat (first | (with_reducible exact HB.out) | (with_reducible apply below_drew) | (with_reducible apply pw_below_drewN) | exact HB.out)) hb); clear HB; have HB := n0_; clear n0_; have k0 := pw_cell_below hb (a := ⟨w.heap.size, 0, none⟩) (v := .int .i64 (y)) (by first | assumption | go_simp); have k1 := pw_cell_below hb (a := ⟨w.heap.size, 1, none⟩) (v := .int .i64 (m)) (by first | assumption | go_simp); have k2 := pw_cell_below hb (a := ⟨w.heap.size, 2, none⟩) (v := .int .i64 (d)) (by first | assumption | go_simp); have k3 := pw_cell_below hb (a := ⟨w.heap.size, 3, none⟩) (v := .int .i64 (h)) (by first | assumption | go_simp); have k4 := pw_cell_below hb (a := ⟨w.heap.size, 4, none⟩) (v := .int .i64 (mi)) (by first | assumption | go_simp); have k5 := pw_cell_below hb (a := ⟨w.heap.size, 5, none⟩) (v := .int .i64 (s)) (by first | assumption | go_simp); have k6 := pw_cell_below hb (a := ⟨w.heap.size, 6, none⟩) (v := .int .i64 (z)) (by first | assumption | go_simp); have k7 := pw_cell_below hb (a := ⟨g3, 0, none⟩) (v := .int .i64 (y - 400)) (by first | assumption | go_simp); have k8 := pw_cell_below hb (a := ⟨g3, 1, none⟩) (v := .int .i64 (m)) (by first | assumption | go_simp); have k9 := pw_cell_below hb (a := ⟨g3, 2, none⟩) (v := .int .i64 (d)) (by first | assumption | go_simp); have k10 := pw_cell_below hb (a := ⟨g3, 3, none⟩) (v := .int .i64 (h)) (by first | assumption | go_simp); have k11 := pw_cell_below hb (a := ⟨g3, 4, none⟩) (v := .int .i64 (mi)) (by first | assumption | go_simp); have k12 := pw_cell_below hb (a := ⟨g3, 5, none⟩) (v := .int .i64 (s)) (by first | assumption | go_simp); have k13 := pw_cell_below hb (a := ⟨g3, 6, none⟩) (v := .int .i64 (z)) (by first | assumption | go_simp); clear hb) | (go_at_call 20; (with_reducible refine (moment_Days.calls 30000 y m d h mi s z DV _ H20.out (laid_below HL.out (by repeat (first | (with_reducible exact HB.out) | (with_reducible apply below_drew) | (with_reducible apply pw_below_drewN) | exact HB.out)))).mono ?_); rintro e w20_ ⟨rfl, hb⟩; have n0_ := Lib.hid (below_step (by repeat (first | (with_reducible exact HB.out) | (with_reducible apply below_drew) | (with_reducible apply pw_below_drewN) | exact HB.out)) hb); clear HB; have HB := n0_; clear n0_; have k0 := pw_cell_below hb (a := ⟨w.heap.size, 0, none⟩) (v := .int .i64 (y)) (by first | assumption | go_simp); have k1 := pw_cell_below hb (a := ⟨w.heap.size, 1, none⟩) (v := .int .i64 (m)) (by first | assumption | go_simp); have k2 := pw_cell_below hb (a := ⟨w.heap.size, 2, none⟩) (v := .int .i64 (d)) (by first | assumption | go_simp); have k3 := pw_cell_below hb (a := ⟨w.heap.size, 3, none⟩) (v := .int .i64 (h)) (by first | assumption | go_simp); have k4 := pw_cell_below hb (a := ⟨w.heap.size, 4, none⟩) (v := .int .i64 (mi)) (by first | assumption | go_simp); have k5 := pw_cell_below hb (a := ⟨w.heap.size, 5, none⟩) (v := .int .i64 (s)) (by first | assumption | go_simp); have k6 := pw_cell_below hb (a := ⟨w.heap.size, 6, none⟩) (v := .int .i64 (z)) (by first | assumption | go_simp); have k7 := pw_cell_below hb (a := ⟨g3, 0, none⟩) (v := .int .i64 (y - 400)) (by first | assumption | go_simp); have k8 := pw_cell_below hb (a := ⟨g3, 1, none⟩) (v := .int .i64 (m)) (by first | assumption | go_simp); have k9 := pw_cell_below hb (a := ⟨g3, 2, none⟩) (v := .int .i64 (d)) (by first | assumption | go_simp); have k10 := pw_cell_below hb (a := ⟨g3, 3, none⟩) (v := .int .i64 (h)) (by first | assumption | go_simp); have k11 := pw_cell_below hb (a := ⟨g3, 4, none⟩) (v := .int .i64 (mi)) (by first | assumption | go_simp); have k12 := pw_cell_below hb (a := ⟨g3, 5, none⟩) (v := .int .i64 (s)) (by first | assumption | go_simp); have k13 := pw_cell_below hb (a := ⟨g3, 6, none⟩) (v := .int .i64 (z)) (by first | assumption | go_simp); clear hb) | (go_at_call 21; (with_reducible refine (moment_Weekday.calls 30000 (y - 400) m d h mi s z W _ G21.out (laid_below HL.out (by repeat (first | (with_reducible exact HB.out) | (with_reducible apply below_drew) | (with_reducible apply pw_below_drewN) | exact HB.out)))).mono ?_); rintro e w21_ ⟨rfl, hb⟩; have n0_ := Lib.hid (below_step (by repeat (first | (with_reducible exact HB.out) | (with_reducible apply below_drew) | (with_reducible apply pw_below_drewN) | exact HB.out)) hb); clear HB; have HB := n0_; clear n0_; have k0 := pw_cell_below hb (a := ⟨w.heap.size, 0, none⟩) (v := .int .i64 (y)) (by first | assumption | go_simp); have k1 := pw_cell_below hb (a := ⟨w.heap.size, 1, none⟩) (v := .int .i64 (m)) (by first | assumption | go_simp); have k2 := pw_cell_below hb (a := ⟨w.heap.size, 2, none⟩) (v := .int .i64 (d)) (by first | assumption | go_simp); have k3 := pw_cell_below hb (a := ⟨w.heap.size, 3, none⟩) (v := .int .i64 (h)) (by first | assumption | go_simp); have k4 := pw_cell_below hb (a := ⟨w.heap.size, 4, none⟩) (v := .int .i64 (mi)) (by first | assumption | go_simp); have k5 := pw_cell_below hb (a := ⟨w.heap.size, 5, none⟩) (v := .int .i64 (s)) (by first | assumption | go_simp); have k6 := pw_cell_below hb (a := ⟨w.heap.size, 6, none⟩) (v := .int .i64 (z)) (by first | assumption | go_simp); have k7 := pw_cell_below hb (a := ⟨g3, 0, none⟩) (v := .int .i64 (y - 400)) (by first | assumption | go_simp); have k8 := pw_cell_below hb (a := ⟨g3, 1, none⟩) (v := .int .i64 (m)) (by first | assumption | go_simp); have k9 := pw_cell_below hb (a := ⟨g3, 2, none⟩) (v := .int .i64 (d)) (by first | assumption | go_simp); have k10 := pw_cell_below hb (a := ⟨g3, 3, none⟩) (v := .int .i64 (h)) (by first | assumption | go_simp); have k11 := pw_cell_below hb (a := ⟨g3, 4, none⟩) (v := .int .i64 (mi)) (by first | assumption | go_simp); have k12 := pw_cell_below hb (a := ⟨g3, 5, none⟩) (v := .int .i64 (s)) (by first | assumption | go_simp); have k13 := pw_cell_below hb (a := ⟨g3, 6, none⟩) (v := .int .i64 (z)) (by first | assumption | go_simp); clear hb)))
            all_goals go_wp2
            all_goals go_ret
            all_goals exact ⟨rfl, (by repeat (first | (with_reducible exact HB.out) | (with_reducible apply below_drew) | (with_reducible apply pw_below_drewN) | exact HB.out))⟩
          · skip
            have G20 := Lib.hid ((days_f 30000 (by omega) (y + 400) m d h mi s z).trans (congrArg some (HFP.out (by omega)).1))
            have G21 := Lib.hid ((week_f 30000 (by omega) (y + 400) m d h mi s z).trans (congrArg some (HFP.out (by omega)).2))
            clear dr HFM HFP
            obtain ⟨⟨k0, k1, k2, k3, k4, k5, k6⟩, _⟩ := cells7 HA.out
            have wy4 := WY4_.out
            obtain ⟨⟨i0, _⟩, _⟩ := cells7 ((Below.heap_alloc wc (.cells #[.int .i64 (y), .int .i64 (m), .int .i64 (d), .int .i64 (h), .int .i64 (mi), .int .i64 (s), .int .i64 (z)] 23) _ (blk_lt HA.out)).trans HA.out)
            go_upto_region 18 with fail
            clear i0 k0 k1 k2 k3 k4 k5 k6 wy4
            have n1_ := Lib.hid (heap_alloc_new wc (.cells #[.int .i64 (y + 400), .int .i64 (m), .int .i64 (d), .int .i64 (h), .int .i64 (mi), .int .i64 (s), .int .i64 (z)] 23))
            have n0_ := Lib.hid ((Below.heap_alloc wc (.cells #[.int .i64 (y + 400), .int .i64 (m), .int .i64 (d), .int .i64 (h), .int .i64 (mi), .int .i64 (s), .int .i64 (z)] 23) _ (blk_lt HA.out)).trans HA.out)
            clear HA
            have HA := n0_
            clear n0_
            have HZ := n1_
            clear n1_
            have n0_ := Lib.hid (below_alloc HB.out (.cells #[.int .i64 (y + 400), .int .i64 (m), .int .i64 (d), .int .i64 (h), .int .i64 (mi), .int .i64 (s), .int .i64 (z)] 23))
            clear HB
            have HB := n0_
            clear n0_
            generalize wc.alloc (.cells #[.int .i64 (y + 400), .int .i64 (m), .int .i64 (d), .int .i64 (h), .int .i64 (mi), .int .i64 (s), .int .i64 (z)] 23) = w7 at *
            generalize wc.heap.size = g3 at *
            obtain ⟨⟨k0, k1, k2, k3, k4, k5, k6⟩, _⟩ := cells7 HA.out
            obtain ⟨⟨k7, k8, k9, k10, k11, k12, k13⟩, _⟩ := cells7 HZ.out
            have wD4 := WD4_.out
            go_region_held3 (fun w' => w'.cell? ⟨w.heap.size, 0, none⟩ = some (.int .i64 (y)) ∧ w'.cell? ⟨w.heap.size, 1, none⟩ = some (.int .i64 (m)) ∧ w'.cell? ⟨w.heap.size, 2, none⟩ = some (.int .i64 (d)) ∧ w'.cell? ⟨w.heap.size, 3, none⟩ = some (.int .i64 (h)) ∧ w'.cell? ⟨w.heap.size, 4, none⟩ = some (.int .i64 (mi)) ∧ w'.cell? ⟨w.heap.size, 5, none⟩ = some (.int .i64 (s)) ∧ w'.cell? ⟨w.heap.size, 6, none⟩ = some (.int .i64 (z)) ∧ w'.cell? ⟨g3, 0, none⟩ = some (.int .i64 (y + 400)) ∧ w'.cell? ⟨g3, 1, none⟩ = some (.int .i64 (m)) ∧ w'.cell? ⟨g3, 2, none⟩ = some (.int .i64 (d)) ∧ w'.cell? ⟨g3, 3, none⟩ = some (.int .i64 (h)) ∧ w'.cell? ⟨g3, 4, none⟩ = some (.int .i64 (mi)) ∧ w'.cell? ⟨g3, 5, none⟩ = some (.int .i64 (s)) ∧ w'.cell? ⟨g3, 6, none⟩ = some (.int .i64 (z))) (go_keep) ((first | (go_at_call 20; (with_reducible refine (moment_Days.calls 30000 (y + 400) m d h mi s z (DV + 146097) _ G20.out (laid_below HL.out (by repeat (first | (with_reducible exact HB.out) | (with_reducible apply below_drew) | (with_reducible apply pw_below_drewN) | exact HB.out)))).mono ?_); rintro e w20_ ⟨rfl, hb⟩; have n0_ := Lib.hid (below_step (by repeat (first | (with_reducible exact HB.out) | (with_reducible apply below_drew) | (with_reducible apply pw_below_drewN) | exact HB.out)) hb); clear HB; have HB := n0_; clear n0_; have k0 := pw_cell_below hb (a := ⟨w.heap.size, 0, none⟩) (v := .int .i64 (y)) (by first | assumption | go_simp); have k1 := pw_cell_below hb (a := ⟨w.heap.size, 1, none⟩) (v := .int .i64 (m)) (by first | assumption | go_simp); have k2 := pw_cell_below hb (a := ⟨w.heap.size, 2, none⟩) (v := .int .i64 (d)) (by first | assumption | go_simp); have k3 := pw_cell_below hb (a := ⟨w.heap.size, 3, none⟩) (v := .int .i64 (h)) (by first | assumption | go_simp); have k4 := pw_cell_below hb (a := ⟨w.heap.size, 4, none⟩) (v := .int .i64 (mi)) (by first | assumption | go_simp); have k5 := pw_cell_below hb (a := ⟨w.heap.size, 5, none⟩) (v := .int .i64 (s)) (by first | assumption | go_simp); have k6 := pw_cell_below hb (a := ⟨w.heap.size, 6, none⟩) (v := .int .i64 (z)) (by first | assumption | go_simp); have k7 := pw_cell_below hb (a := ⟨g3, 0, none⟩) (v := .int .i64 (y + 400)) (by first | assumption | go_simp); have k8 := pw_cell_below hb (a := ⟨g3, 1, none⟩) (v := .int .i64 (m)) (by first | assumption | go_simp); have k9 := pw_cell_below hb (a := ⟨g3, 2, none⟩) (v := .int .i64 (d)) (by first | assumption | go_simp); have k10 := pw_cell_below hb (a := ⟨g3, 3, none⟩) (v := .int .i64 (h)) (by first | assumption | go_simp); have k11 := pw_cell_below hb (a := ⟨g3, 4, none⟩) (v := .int .i64 (mi)) (by first | assumption | go_simp); have k12 := pw_cell_below hb (a := ⟨g3, 5, none⟩) (v := .int .i64 (s)) (by first | assumption | go_simp); have k13 := pw_cell_below hb (a := ⟨g3, 6, none⟩) (v := .int .i64 (z)) (by first | assumption | go_simp); clear hb) | (go_at_call 20; (with_reducible refine (moment_Days.calls 30000 y m d h mi s z DV _ H20.out (laid_below HL.out (by repeat (first | (with_reducible exact HB.out) | (with_reducible apply below_drew) | (with_reducible apply pw_below_drewN) | exact HB.out)))).mono ?_); rintro e w20_ ⟨rfl, hb⟩; have n0_ := Lib.hid (below_step (by repeat (first | (with_reducible exact HB.out) | (with_reducible apply below_drew) | (with_reducible apply pw_below_drewN) | exact HB.out)) hb); clear HB; have HB := n0_; clear n0_; have k0 := pw_cell_below hb (a := ⟨w.heap.size, 0, none⟩) (v := .int .i64 (y)) (by first | assumption | go_simp); have k1 := pw_cell_below hb (a := ⟨w.heap.size, 1, none⟩) (v := .int .i64 (m)) (by first | assumption | go_simp); have k2 := pw_cell_below hb (a := ⟨w.heap.size, 2, none⟩) (v := .int .i64 (d)) (by first | assumption | go_simp); have k3 := pw_cell_below hb (a := ⟨w.heap.size, 3, none⟩) (v := .int .i64 (h)) (by first | assumption | go_simp); have k4 := pw_cell_below hb (a := ⟨w.heap.size, 4, none⟩) (v := .int .i64 (mi)) (by first | assumption | go_simp); have k5 := pw_cell_below hb (a := ⟨w.heap.size, 5, none⟩) (v := .int .i64 (s)) (by first | assumption | go_simp); have k6 := pw_cell_below hb (a := ⟨w.heap.size, 6, none⟩) (v := .int .i64 (z)) (by first | assumption | go_simp); have k7 := pw_cell_below hb (a := ⟨g3, 0, none⟩) (v := .int .i64 (y + 400)) (by first | assumption | go_simp); have k8 := pw_cell_below hb (a := ⟨g3, 1, none⟩) (v := .int .i64 (m)) (by first | assumption | go_simp); have k9 := pw_cell_below hb (a := ⟨g3, 2, none⟩) (v := .int .i64 (d)) (by first | assumption | go_simp); have k10 := pw_cell_below hb (a := ⟨g3, 3, none⟩) (v := .int .i64 (h)) (by first | assumption | go_simp); have k11 := pw_cell_below hb (a := ⟨g3, 4, none⟩) (v := .int .i64 (mi)) (by first | assumption | go_simp); have k12 := pw_cell_below hb (a := ⟨g3, 5, none⟩) (v := .int .i64 (s)) (by first | assumption | go_simp); have k13 := pw_cell_below hb (a := ⟨g3, 6, none⟩) (v := .int .i64 (z)) (by first | assumption | go_simp); clear hb) | (go_at_call 21; (with_reducible refine (moment_Weekday.calls 30000 (y + 400) m d h mi s z W _ G21.out (laid_below HL.out (by repeat (first | (with_reducible exact HB.out) | (with_reducible apply below_drew) | (with_reducible apply pw_below_drewN) | exact HB.out)))).mono ?_); rintro e w21_ ⟨rfl, hb⟩; have n0_ := Lib.hid (below_step (by repeat (first | (with_reducible exact HB.out) | (with_reducible apply below_drew) | (with_reducible apply pw_below_drewN) | exact HB.out)) hb); clear HB; have HB := n0_; clear n0_; have k0 := pw_cell_below hb (a := ⟨w.heap.size, 0, none⟩) (v := .int .i64 (y)) (by first | assumption | go_simp); have k1 := pw_cell_below hb (a := ⟨w.heap.size, 1, none⟩) (v := .int .i64 (m)) (by first | assumption | go_simp); have k2 := pw_cell_below hb (a := ⟨w.heap.size, 2, none⟩) (v := .int .i64 (d)) (by first | assumption | go_simp); have k3 := pw_cell_below hb (a := ⟨w.heap.size, 3, none⟩) (v := .int .i64 (h)) (by first | assumption | go_simp); have k4 := pw_cell_below hb (a := ⟨w.heap.size, 4, none⟩) (v := .int .i64 (mi)) (by first | assumption | go_simp); have k5 := pw_cell_below hb (a := ⟨w.heap.size, 5, none⟩) (v := .int .i64 (s)) (by first | assumption | go_simp); have k6 := pw_cell_below hb (a := ⟨w.heap.size, 6, none⟩) (v := .int .i64 (z)) (by first | assumption | go_simp); have k7 := pw_cell_below hb (a := ⟨g3, 0, none⟩) (v := .int .i64 (y + 400)) (by first | assumption | go_simp); have k8 := pw_cell_below hb (a := ⟨g3, 1, none⟩) (v := .int .i64 (m)) (by first | assumption | go_simp); have k9 := pw_cell_below hb (a := ⟨g3, 2, none⟩) (v := .int .i64 (d)) (by first | assumption | go_simp); have k10 := pw_cell_below hb (a := ⟨g3, 3, none⟩) (v := .int .i64 (h)) (by first | assumption | go_simp); have k11 := pw_cell_below hb (a := ⟨g3, 4, none⟩) (v := .int .i64 (mi)) (by first | assumption | go_simp); have k12 := pw_cell_below hb (a := ⟨g3, 5, none⟩) (v := .int .i64 (s)) (by first | assumption | go_simp); have k13 := pw_cell_below hb (a := ⟨g3, 6, none⟩) (v := .int .i64 (z)) (by first | assumption | go_simp); clear hb)))
            all_goals go_wp2
            all_goals go_ret
            all_goals exact ⟨rfl, (by repeat (first | (with_reducible exact HB.out) | (with_reducible apply below_drew) | (with_reducible apply pw_below_drewN) | exact HB.out))⟩
    · skip
      have c4 : 9999 < y + 400 := by have := tom_last hN b2 (by omega); omega
      rw [hN] at hBE
      have hdec : decide (Y ≤ 9999) = false := decide_eq_false (by omega)
      dsimp only at hBE
      rw [hdec] at hBE
      clear hdec hTN hN
      have HBE := Lib.hid hBE
      clear hBE
      have P19 := Lib.hid ((valid_f y m (d + 1) h mi s z).trans (congrArg some (hTA.trans hnv)))
      clear hTA hnv
      have HFP := Lib.hid hFP
      have HFM := Lib.hid hFM
      clear hFP hFM
      have wd : IntKind.i64.wrap (d + 1) = d + 1 := IntWalk.i64_in _ ⟨by omega, by omega⟩
      have wy4 : IntKind.i64.wrap (y + 400) = y + 400 := IntWalk.i64_in _ ⟨by omega, by omega⟩
      have wy5 : IntKind.i64.wrap (y - 400) = y - 400 := IntWalk.i64_in _ ⟨by omega, by omega⟩
      have wD1 : IntKind.i64.wrap (DV + 1) = DV + 1 := IntWalk.i64_in _ ⟨by omega, by omega⟩
      have wW1 : IntKind.i64.wrap (W + 1) = W + 1 := IntWalk.i64_in _ ⟨by omega, by omega⟩
      have wS1 : IntKind.i64.wrap (S + 86400) = S + 86400 := IntWalk.i64_in _ ⟨by omega, by omega⟩
      have wD4 : IntKind.i64.wrap (DV + 146097) = DV + 146097 := IntWalk.i64_in _ ⟨by omega, by omega⟩
      have wT : Int.tmod (W + 1) 7 = (W + 1) % 7 := Int.tmod_eq_emod_of_nonneg (by omega)
      have wX : IntKind.i64.wrap ((W + 1) % 7) = (W + 1) % 7 := IntWalk.i64_in _ ⟨by omega, by omega⟩
      have WD_ := Lib.hid wd
      have WY4_ := Lib.hid wy4
      have WY5_ := Lib.hid wy5
      have WD1_ := Lib.hid wD1
      have WW1_ := Lib.hid wW1
      have WS1_ := Lib.hid wS1
      have WD4_ := Lib.hid wD4
      have WT_ := Lib.hid wT
      have WX_ := Lib.hid wX
      clear wd wy4 wy5 wD1 wW1 wS1 wD4 wT wX
      have HDR := Lib.hid dr
      clear dr sr wr
      have HB := Lib.hid (below_alloc (Below.refl _ w) (.cells #[.int .i64 (y), .int .i64 (m), .int .i64 (d), .int .i64 (h), .int .i64 (mi), .int .i64 (s), .int .i64 (z)] 23))
      have HA := Lib.hid (heap_alloc_new w (.cells #[.int .i64 (y), .int .i64 (m), .int .i64 (d), .int .i64 (h), .int .i64 (mi), .int .i64 (s), .int .i64 (z)] 23))
      go_enter Tryd.func6, Tryd.ntmps6
      go_wp2_with fail
      generalize w.alloc (.cells #[.int .i64 (y), .int .i64 (m), .int .i64 (d), .int .i64 (h), .int .i64 (mi), .int .i64 (s), .int .i64 (z)] 23) = w0 at *
      refine (known_calls _ (laid_below HL.out (by repeat (first | (with_reducible exact HB.out) | (with_reducible apply below_drew) | (with_reducible apply pw_below_drewN) | exact HB.out)))).mono ?_
      rintro e w1 ⟨rfl, hb⟩
      have n0_ := Lib.hid (below_step (by repeat (first | (with_reducible exact HB.out) | (with_reducible apply below_drew) | (with_reducible apply pw_below_drewN) | exact HB.out)) hb)
      clear HB
      have HB := n0_
      clear n0_
      have n0_ := Lib.hid ((hb.block _ (blk_lt HA.out)).trans HA.out)
      clear HA
      have HA := n0_
      clear n0_
      clear hb
      obtain ⟨⟨a0, a1, a2, a3, a4, a5, a6⟩, _⟩ := cells7 HA.out
      go_wp2_with fail
      clear a0 a1 a2 a3 a4 a5 a6
      refine (moment_Valid.calls y m d h mi s z true _ H19.out (laid_below HL.out (by repeat (first | (with_reducible exact HB.out) | (with_reducible apply below_drew) | (with_reducible apply pw_below_drewN) | exact HB.out)))).mono ?_
      rintro e w2 ⟨rfl, hb⟩
      have n0_ := Lib.hid (below_step (by repeat (first | (with_reducible exact HB.out) | (with_reducible apply below_drew) | (with_reducible apply pw_below_drewN) | exact HB.out)) hb)
      clear HB
      have HB := n0_
      clear n0_
      have n0_ := Lib.hid ((hb.block _ (blk_lt HA.out)).trans HA.out)
      clear HA
      have HA := n0_
      clear n0_
      clear hb
      obtain ⟨⟨a0, a1, a2, a3, a4, a5, a6⟩, _⟩ := cells7 HA.out
      go_wp2_with fail
      clear a0 a1 a2 a3 a4 a5 a6
      refine (moment_Weekday.calls 30000 y m d h mi s z W _ H21.out (laid_below HL.out (by repeat (first | (with_reducible exact HB.out) | (with_reducible apply below_drew) | (with_reducible apply pw_below_drewN) | exact HB.out)))).mono ?_
      rintro e w3 ⟨rfl, hb⟩
      have n0_ := Lib.hid (below_step (by repeat (first | (with_reducible exact HB.out) | (with_reducible apply below_drew) | (with_reducible apply pw_below_drewN) | exact HB.out)) hb)
      clear HB
      have HB := n0_
      clear n0_
      have n0_ := Lib.hid ((hb.block _ (blk_lt HA.out)).trans HA.out)
      clear HA
      have HA := n0_
      clear n0_
      clear hb
      obtain ⟨⟨a0, a1, a2, a3, a4, a5, a6⟩, _⟩ := cells7 HA.out
      go_wp2_with fail
      clear a0 a1 a2 a3 a4 a5 a6
      refine (HBE.out _).mono ?_
      rintro e w4 ⟨rfl, hb⟩
      have n0_ := Lib.hid (below_step (by repeat (first | (with_reducible exact HB.out) | (with_reducible apply below_drew) | (with_reducible apply pw_below_drewN) | exact HB.out)) hb)
      clear HB
      have HB := n0_
      clear n0_
      have n0_ := Lib.hid ((hb.block _ (blk_lt HA.out)).trans HA.out)
      clear HA
      have HA := n0_
      clear n0_
      clear hb
      go_upto_region 7 with fail
      have n1_ := Lib.hid (heap_alloc_new w4 (.cells #[.int .i64 (Y), .int .i64 (M), .int .i64 (D), .int .i64 (h), .int .i64 (mi), .int .i64 (s), .int .i64 (z)] 23))
      have n0_ := Lib.hid ((Below.heap_alloc w4 (.cells #[.int .i64 (Y), .int .i64 (M), .int .i64 (D), .int .i64 (h), .int .i64 (mi), .int .i64 (s), .int .i64 (z)] 23) _ (blk_lt HA.out)).trans HA.out)
      clear HA
      have HA := n0_
      clear n0_
      have HX := n1_
      clear n1_
      have n0_ := Lib.hid (below_alloc HB.out (.cells #[.int .i64 (Y), .int .i64 (M), .int .i64 (D), .int .i64 (h), .int .i64 (mi), .int .i64 (s), .int .i64 (z)] 23))
      clear HB
      have HB := n0_
      clear n0_
      generalize w4.alloc (.cells #[.int .i64 (Y), .int .i64 (M), .int .i64 (D), .int .i64 (h), .int .i64 (mi), .int .i64 (s), .int .i64 (z)] 23) = w5 at *
      generalize w4.heap.size = g1 at *
      go_cut [62] (fun v62 wc => v62 = .bool false ∧ Aside0 (Below w.heap.size w wc ∧ wc.heap[w.heap.size]? = some (.cells #[.int .i64 (y), .int .i64 (m), .int .i64 (d), .int .i64 (h), .int .i64 (mi), .int .i64 (s), .int .i64 (z)] 23) ∧ wc.heap[g1]? = some (.cells #[.int .i64 (Y), .int .i64 (M), .int .i64 (D), .int .i64 (h), .int .i64 (mi), .int .i64 (s), .int .i64 (z)] 23)))
      case first =>
        go_region
        all_goals go_wp2
        all_goals go_meet
        all_goals exact ⟨rfl, ⟨(by repeat (first | (with_reducible exact HB.out) | (with_reducible apply below_drew) | (with_reducible apply pw_below_drewN) | exact HB.out)), (by (with_reducible repeat (first | refine blk_drewN ?_ _ | refine blk_drew ?_ | refine blk_alloc ?_ _)); exact HA.out), (by (with_reducible repeat (first | refine blk_drewN ?_ _ | refine blk_drew ?_ | refine blk_alloc ?_ _)); exact HX.out)⟩⟩
      case rest =>
        obtain ⟨rfl, HQ⟩ := hcut
        clear HB HA HX
        have HB := Lib.hid HQ.out.1
        have HA := Lib.hid HQ.out.2.1
        have HX := Lib.hid HQ.out.2.2
        clear HQ
        obtain ⟨⟨k0, k1, k2, k3, k4, k5, k6⟩, _⟩ := cells7 HA.out
        have wd := WD_.out
        go_upto_region 11 with fail
        clear k0 k1 k2 k3 k4 k5 k6 wd
        have n1_ := Lib.hid (heap_alloc_new wc (.cells #[.int .i64 (y), .int .i64 (m), .int .i64 (d + 1), .int .i64 (h), .int .i64 (mi), .int .i64 (s), .int .i64 (z)] 23))
        have n0_ := Lib.hid ((Below.heap_alloc wc (.cells #[.int .i64 (y), .int .i64 (m), .int .i64 (d + 1), .int .i64 (h), .int .i64 (mi), .int .i64 (s), .int .i64 (z)] 23) _ (blk_lt HA.out)).trans HA.out)
        clear HA
        have HA := n0_
        clear n0_
        have n0_ := Lib.hid ((Below.heap_alloc wc (.cells #[.int .i64 (y), .int .i64 (m), .int .i64 (d + 1), .int .i64 (h), .int .i64 (mi), .int .i64 (s), .int .i64 (z)] 23) _ (blk_lt HX.out)).trans HX.out)
        clear HX
        have HX := n0_
        clear n0_
        have HY := n1_
        clear n1_
        have n0_ := Lib.hid (below_alloc HB.out (.cells #[.int .i64 (y), .int .i64 (m), .int .i64 (d + 1), .int .i64 (h), .int .i64 (mi), .int .i64 (s), .int .i64 (z)] 23))
        clear HB
        have HB := n0_
        clear n0_
        generalize wc.alloc (.cells #[.int .i64 (y), .int .i64 (m), .int .i64 (d + 1), .int .i64 (h), .int .i64 (mi), .int .i64 (s), .int .i64 (z)] 23) = w6 at *
        generalize wc.heap.size = g2 at *
        go_cut [73] (fun v73 wc => v73 = .bool false ∧ Aside0 (Below w.heap.size w wc ∧ wc.heap[w.heap.size]? = some (.cells #[.int .i64 (y), .int .i64 (m), .int .i64 (d), .int .i64 (h), .int .i64 (mi), .int .i64 (s), .int .i64 (z)] 23)))
        case first =>
          obtain ⟨⟨k0, k1, k2, k3, k4, k5, k6⟩, _⟩ := cells7 HY.out
          obtain ⟨⟨k7, k8, k9, k10, k11, k12, k13⟩, _⟩ := cells7 HX.out
          go_region_held3 (fun w' => w'.cell? ⟨g2, 0, none⟩ = some (.int .i64 (y)) ∧ w'.cell? ⟨g2, 1, none⟩ = some (.int .i64 (m)) ∧ w'.cell? ⟨g2, 2, none⟩ = some (.int .i64 (d + 1)) ∧ w'.cell? ⟨g2, 3, none⟩ = some (.int .i64 (h)) ∧ w'.cell? ⟨g2, 4, none⟩ = some (.int .i64 (mi)) ∧ w'.cell? ⟨g2, 5, none⟩ = some (.int .i64 (s)) ∧ w'.cell? ⟨g2, 6, none⟩ = some (.int .i64 (z)) ∧ w'.cell? ⟨g1, 0, none⟩ = some (.int .i64 (Y)) ∧ w'.cell? ⟨g1, 1, none⟩ = some (.int .i64 (M)) ∧ w'.cell? ⟨g1, 2, none⟩ = some (.int .i64 (D)) ∧ w'.cell? ⟨g1, 3, none⟩ = some (.int .i64 (h)) ∧ w'.cell? ⟨g1, 4, none⟩ = some (.int .i64 (mi)) ∧ w'.cell? ⟨g1, 5, none⟩ = some (.int .i64 (s)) ∧ w'.cell? ⟨g1, 6, none⟩ = some (.int .i64 (z))) (go_keep) ((first | (go_at_call 19; (with_reducible refine (moment_Valid.calls y m (d + 1) h mi s z (y == Y && (m == M && d + 1 == D)) _ P19.out (laid_below HL.out (by repeat (first | (with_reducible exact HB.out) | (with_reducible apply below_drew) | (with_reducible apply pw_below_drewN) | exact HB.out)))).mono ?_); rintro e w19_ ⟨rfl, hb⟩; have n0_ := Lib.hid (below_step (by repeat (first | (with_reducible exact HB.out) | (with_reducible apply below_drew) | (with_reducible apply pw_below_drewN) | exact HB.out)) hb); clear HB; have HB := n0_; clear n0_; have n0_ := Lib.hid ((hb.block _ (blk_lt HA.out)).trans (by (with_reducible repeat (first | refine blk_drewN ?_ _ | refine blk_drew ?_ | refine blk_alloc ?_ _)); exact HA.out)); clear HA; have HA := n0_; clear n0_; have k0 := pw_cell_below hb (a := ⟨g2, 0, none⟩) (v := .int .i64 (y)) (by first | assumption | go_simp); have k1 := pw_cell_below hb (a := ⟨g2, 1, none⟩) (v := .int .i64 (m)) (by first | assumption | go_simp); have k2 := pw_cell_below hb (a := ⟨g2, 2, none⟩) (v := .int .i64 (d + 1)) (by first | assumption | go_simp); have k3 := pw_cell_below hb (a := ⟨g2, 3, none⟩) (v := .int .i64 (h)) (by first | assumption | go_simp); have k4 := pw_cell_below hb (a := ⟨g2, 4, none⟩) (v := .int .i64 (mi)) (by first | assumption | go_simp); have k5 := pw_cell_below hb (a := ⟨g2, 5, none⟩) (v := .int .i64 (s)) (by first | assumption | go_simp); have k6 := pw_cell_below hb (a := ⟨g2, 6, none⟩) (v := .int .i64 (z)) (by first | assumption | go_simp); have k7 := pw_cell_below hb (a := ⟨g1, 0, none⟩) (v := .int .i64 (Y)) (by first | assumption | go_simp); have k8 := pw_cell_below hb (a := ⟨g1, 1, none⟩) (v := .int .i64 (M)) (by first | assumption | go_simp); have k9 := pw_cell_below hb (a := ⟨g1, 2, none⟩) (v := .int .i64 (D)) (by first | assumption | go_simp); have k10 := pw_cell_below hb (a := ⟨g1, 3, none⟩) (v := .int .i64 (h)) (by first | assumption | go_simp); have k11 := pw_cell_below hb (a := ⟨g1, 4, none⟩) (v := .int .i64 (mi)) (by first | assumption | go_simp); have k12 := pw_cell_below hb (a := ⟨g1, 5, none⟩) (v := .int .i64 (s)) (by first | assumption | go_simp); have k13 := pw_cell_below hb (a := ⟨g1, 6, none⟩) (v := .int .i64 (z)) (by first | assumption | go_simp); clear hb)))
          all_goals go_wp2
          all_goals go_meet
          all_goals exact ⟨rfl, ⟨(by repeat (first | (with_reducible exact HB.out) | (with_reducible apply below_drew) | (with_reducible apply pw_below_drewN) | exact HB.out)), (by (with_reducible repeat (first | refine blk_drewN ?_ _ | refine blk_drew ?_ | refine blk_alloc ?_ _)); exact HA.out)⟩⟩
        case rest =>
          obtain ⟨rfl, HQ⟩ := hcut
          clear HB HA HX HY
          have HB := Lib.hid HQ.out.1
          have HA := Lib.hid HQ.out.2
          clear HQ
          have dr := HDR.out
          by_cases cf : 9999 < y + 400
          · skip
            have G20 := Lib.hid (days_f 30000 (by omega) (y - 400) m d h mi s z)
            have hq := (HFM.out cf).1
            generalize daysV (y - 400) m d h mi s z = DF at *
            have wDF : IntKind.i64.wrap (DF + 146097) = DV := by rw [hq]; exact IntWalk.i64_in _ ⟨by omega, by omega⟩
            have WDF_ := Lib.hid wDF
            clear wDF hq
            have G21 := Lib.hid ((week_f 30000 (by omega) (y - 400) m d h mi s z).trans (congrArg some (HFM.out cf).2))
            clear dr HFM HFP
            obtain ⟨⟨k0, k1, k2, k3, k4, k5, k6⟩, _⟩ := cells7 HA.out
            have wy4 := WY4_.out
            have wy5 := WY5_.out
            obtain ⟨⟨i0, _⟩, _⟩ := cells7 ((Below.heap_alloc wc (.cells #[.int .i64 (y), .int .i64 (m), .int .i64 (d), .int .i64 (h), .int .i64 (mi), .int .i64 (s), .int .i64 (z)] 23) _ (blk_lt HA.out)).trans HA.out)
            obtain ⟨⟨j0, _⟩, _⟩ := cells7 ((Below.heap_alloc wc (.cells #[.int .i64 (y + 400), .int .i64 (m), .int .i64 (d), .int .i64 (h), .int .i64 (mi), .int .i64 (s), .int .i64 (z)] 23) _ (blk_lt HA.out)).trans HA.out)
            go_upto_region 17 with fail
            clear i0 j0 k0 k1 k2 k3 k4 k5 k6 wy4 wy5
            have n1_ := Lib.hid (heap_alloc_new wc (.cells #[.int .i64 (y - 400), .int .i64 (m), .int .i64 (d), .int .i64 (h), .int .i64 (mi), .int .i64 (s), .int .i64 (z)] 23))
            have n0_ := Lib.hid ((Below.heap_alloc wc (.cells #[.int .i64 (y - 400), .int .i64 (m), .int .i64 (d), .int .i64 (h), .int .i64 (mi), .int .i64 (s), .int .i64 (z)] 23) _ (blk_lt HA.out)).trans HA.out)
            clear HA
            have HA := n0_
            clear n0_
            have HZ := n1_
            clear n1_
            have n0_ := Lib.hid (below_alloc HB.out (.cells #[.int .i64 (y - 400), .int .i64 (m), .int .i64 (d), .int .i64 (h), .int .i64 (mi), .int .i64 (s), .int .i64 (z)] 23))
            clear HB
            have HB := n0_
            clear n0_
            generalize wc.alloc (.cells #[.int .i64 (y - 400), .int .i64 (m), .int .i64 (d), .int .i64 (h), .int .i64 (mi), .int .i64 (s), .int .i64 (z)] 23) = w7 at *
            generalize wc.heap.size = g3 at *
            obtain ⟨⟨k0, k1, k2, k3, k4, k5, k6⟩, _⟩ := cells7 HA.out
            obtain ⟨⟨k7, k8, k9, k10, k11, k12, k13⟩, _⟩ := cells7 HZ.out
            have wDF := WDF_.out
            go_region_held3 (fun w' => w'.cell? ⟨w.heap.size, 0, none⟩ = some (.int .i64 (y)) ∧ w'.cell? ⟨w.heap.size, 1, none⟩ = some (.int .i64 (m)) ∧ w'.cell? ⟨w.heap.size, 2, none⟩ = some (.int .i64 (d)) ∧ w'.cell? ⟨w.heap.size, 3, none⟩ = some (.int .i64 (h)) ∧ w'.cell? ⟨w.heap.size, 4, none⟩ = some (.int .i64 (mi)) ∧ w'.cell? ⟨w.heap.size, 5, none⟩ = some (.int .i64 (s)) ∧ w'.cell? ⟨w.heap.size, 6, none⟩ = some (.int .i64 (z)) ∧ w'.cell? ⟨g3, 0, none⟩ = some (.int .i64 (y - 400)) ∧ w'.cell? ⟨g3, 1, none⟩ = some (.int .i64 (m)) ∧ w'.cell? ⟨g3, 2, none⟩ = some (.int .i64 (d)) ∧ w'.cell? ⟨g3, 3, none⟩ = some (.int .i64 (h)) ∧ w'.cell? ⟨g3, 4, none⟩ = some (.int .i64 (mi)) ∧ w'.cell? ⟨g3, 5, none⟩ = some (.int .i64 (s)) ∧ w'.cell? ⟨g3, 6, none⟩ = some (.int .i64 (z))) (go_keep) ((first | (go_at_call 20; (with_reducible refine (moment_Days.calls 30000 (y - 400) m d h mi s z DF _ G20.out (laid_below HL.out (by repeat (first | (with_reducible exact HB.out) | (with_reducible apply below_drew) | (with_reducible apply pw_below_drewN) | exact HB.out)))).mono ?_); rintro e w20_ ⟨rfl, hb⟩; have n0_ := Lib.hid (below_step (by repeat (first | (with_reducible exact HB.out) | (with_reducible apply below_drew) | (with_reducible apply pw_below_drewN) | exact HB.out)) hb); clear HB; have HB := n0_; clear n0_; have k0 := pw_cell_below hb (a := ⟨w.heap.size, 0, none⟩) (v := .int .i64 (y)) (by first | assumption | go_simp); have k1 := pw_cell_below hb (a := ⟨w.heap.size, 1, none⟩) (v := .int .i64 (m)) (by first | assumption | go_simp); have k2 := pw_cell_below hb (a := ⟨w.heap.size, 2, none⟩) (v := .int .i64 (d)) (by first | assumption | go_simp); have k3 := pw_cell_below hb (a := ⟨w.heap.size, 3, none⟩) (v := .int .i64 (h)) (by first | assumption | go_simp); have k4 := pw_cell_below hb (a := ⟨w.heap.size, 4, none⟩) (v := .int .i64 (mi)) (by first | assumption | go_simp); have k5 := pw_cell_below hb (a := ⟨w.heap.size, 5, none⟩) (v := .int .i64 (s)) (by first | assumption | go_simp); have k6 := pw_cell_below hb (a := ⟨w.heap.size, 6, none⟩) (v := .int .i64 (z)) (by first | assumption | go_simp); have k7 := pw_cell_below hb (a := ⟨g3, 0, none⟩) (v := .int .i64 (y - 400)) (by first | assumption | go_simp); have k8 := pw_cell_below hb (a := ⟨g3, 1, none⟩) (v := .int .i64 (m)) (by first | assumption | go_simp); have k9 := pw_cell_below hb (a := ⟨g3, 2, none⟩) (v := .int .i64 (d)) (by first | assumption | go_simp); have k10 := pw_cell_below hb (a := ⟨g3, 3, none⟩) (v := .int .i64 (h)) (by first | assumption | go_simp); have k11 := pw_cell_below hb (a := ⟨g3, 4, none⟩) (v := .int .i64 (mi)) (by first | assumption | go_simp); have k12 := pw_cell_below hb (a := ⟨g3, 5, none⟩) (v := .int .i64 (s)) (by first | assumption | go_simp); have k13 := pw_cell_below hb (a := ⟨g3, 6, none⟩) (v := .int .i64 (z)) (by first | assumption | go_simp); clear hb) | (go_at_call 20; (with_reducible refine (moment_Days.calls 30000 y m d h mi s z DV _ H20.out (laid_below HL.out (by repeat (first | (with_reducible exact HB.out) | (with_reducible apply below_drew) | (with_reducible apply pw_below_drewN) | exact HB.out)))).mono ?_); rintro e w20_ ⟨rfl, hb⟩; have n0_ := Lib.hid (below_step (by repeat (first | (with_reducible exact HB.out) | (with_reducible apply below_drew) | (with_reducible apply pw_below_drewN) | exact HB.out)) hb); clear HB; have HB := n0_; clear n0_; have k0 := pw_cell_below hb (a := ⟨w.heap.size, 0, none⟩) (v := .int .i64 (y)) (by first | assumption | go_simp); have k1 := pw_cell_below hb (a := ⟨w.heap.size, 1, none⟩) (v := .int .i64 (m)) (by first | assumption | go_simp); have k2 := pw_cell_below hb (a := ⟨w.heap.size, 2, none⟩) (v := .int .i64 (d)) (by first | assumption | go_simp); have k3 := pw_cell_below hb (a := ⟨w.heap.size, 3, none⟩) (v := .int .i64 (h)) (by first | assumption | go_simp); have k4 := pw_cell_below hb (a := ⟨w.heap.size, 4, none⟩) (v := .int .i64 (mi)) (by first | assumption | go_simp); have k5 := pw_cell_below hb (a := ⟨w.heap.size, 5, none⟩) (v := .int .i64 (s)) (by first | assumption | go_simp); have k6 := pw_cell_below hb (a := ⟨w.heap.size, 6, none⟩) (v := .int .i64 (z)) (by first | assumption | go_simp); have k7 := pw_cell_below hb (a := ⟨g3, 0, none⟩) (v := .int .i64 (y - 400)) (by first | assumption | go_simp); have k8 := pw_cell_below hb (a := ⟨g3, 1, none⟩) (v := .int .i64 (m)) (by first | assumption | go_simp); have k9 := pw_cell_below hb (a := ⟨g3, 2, none⟩) (v := .int .i64 (d)) (by first | assumption | go_simp); have k10 := pw_cell_below hb (a := ⟨g3, 3, none⟩) (v := .int .i64 (h)) (by first | assumption | go_simp); have k11 := pw_cell_below hb (a := ⟨g3, 4, none⟩) (v := .int .i64 (mi)) (by first | assumption | go_simp); have k12 := pw_cell_below hb (a := ⟨g3, 5, none⟩) (v := .int .i64 (s)) (by first | assumption | go_simp); have k13 := pw_cell_below hb (a := ⟨g3, 6, none⟩) (v := .int .i64 (z)) (by first | assumption | go_simp); clear hb) | (go_at_call 21; (with_reducible refine (moment_Weekday.calls 30000 (y - 400) m d h mi s z W _ G21.out (laid_below HL.out (by repeat (first | (with_reducible exact HB.out) | (with_reducible apply below_drew) | (with_reducible apply pw_below_drewN) | exact HB.out)))).mono ?_); rintro e w21_ ⟨rfl, hb⟩; have n0_ := Lib.hid (below_step (by repeat (first | (with_reducible exact HB.out) | (with_reducible apply below_drew) | (with_reducible apply pw_below_drewN) | exact HB.out)) hb); clear HB; have HB := n0_; clear n0_; have k0 := pw_cell_below hb (a := ⟨w.heap.size, 0, none⟩) (v := .int .i64 (y)) (by first | assumption | go_simp); have k1 := pw_cell_below hb (a := ⟨w.heap.size, 1, none⟩) (v := .int .i64 (m)) (by first | assumption | go_simp); have k2 := pw_cell_below hb (a := ⟨w.heap.size, 2, none⟩) (v := .int .i64 (d)) (by first | assumption | go_simp); have k3 := pw_cell_below hb (a := ⟨w.heap.size, 3, none⟩) (v := .int .i64 (h)) (by first | assumption | go_simp); have k4 := pw_cell_below hb (a := ⟨w.heap.size, 4, none⟩) (v := .int .i64 (mi)) (by first | assumption | go_simp); have k5 := pw_cell_below hb (a := ⟨w.heap.size, 5, none⟩) (v := .int .i64 (s)) (by first | assumption | go_simp); have k6 := pw_cell_below hb (a := ⟨w.heap.size, 6, none⟩) (v := .int .i64 (z)) (by first | assumption | go_simp); have k7 := pw_cell_below hb (a := ⟨g3, 0, none⟩) (v := .int .i64 (y - 400)) (by first | assumption | go_simp); have k8 := pw_cell_below hb (a := ⟨g3, 1, none⟩) (v := .int .i64 (m)) (by first | assumption | go_simp); have k9 := pw_cell_below hb (a := ⟨g3, 2, none⟩) (v := .int .i64 (d)) (by first | assumption | go_simp); have k10 := pw_cell_below hb (a := ⟨g3, 3, none⟩) (v := .int .i64 (h)) (by first | assumption | go_simp); have k11 := pw_cell_below hb (a := ⟨g3, 4, none⟩) (v := .int .i64 (mi)) (by first | assumption | go_simp); have k12 := pw_cell_below hb (a := ⟨g3, 5, none⟩) (v := .int .i64 (s)) (by first | assumption | go_simp); have k13 := pw_cell_below hb (a := ⟨g3, 6, none⟩) (v := .int .i64 (z)) (by first | assumption | go_simp); clear hb)))
            all_goals go_wp2
            all_goals go_ret
            all_goals exact ⟨rfl, (by repeat (first | (with_reducible exact HB.out) | (with_reducible apply below_drew) | (with_reducible apply pw_below_drewN) | exact HB.out))⟩
          · exfalso
            omega
def postbaglaw2_MomentTomorrow.f (_ _ _ _ _ _ _ : Int) : Option Bool := some true
theorem postbaglaw2_MomentTomorrow.calls (a0_0 a0_1 a0_2 a0_3 a0_4 a0_5 a0_6 : Int) (r : Bool) (w : World) (h : postbaglaw2_MomentTomorrow.f a0_0 a0_1 a0_2 a0_3 a0_4 a0_5 a0_6 = some r) (hL : Laid w) :
    Calls Tryd.prog 6 #[.agg #[.int .i64 a0_0, .int .i64 a0_1, .int .i64 a0_2, .int .i64 a0_3, .int .i64 a0_4, .int .i64 a0_5, .int .i64 a0_6]] w fun e w' => e = .returned (.bool r) ∧ Below w.heap.size w w' := by
  obtain rfl : true = r := Option.some.inj h
  exact tomorrow_calls _ _ _ _ _ _ _ w hL
end Go.Proofs.YtjlchnmpebdggaaDoor.Mo
end
section
namespace Go.Proofs.YtjlchnmpebdggaaDoor.Pure
open Go.Proofs.YtjlchnmpebdggaaDoor.Mo
theorem MomentTomorrow (x : S23) {P : Prop} (_ : P) : postbaglaw2_MomentTomorrow.f x.f0 x.f1 x.f2 x.f3 x.f4 x.f5 x.f6 = some true := rfl
end Go.Proofs.YtjlchnmpebdggaaDoor.Pure
end
section
namespace Go.Proofs.YtjlchnmpebdggaaDoor.Mo
open Go.ChangeShapes Go.WideShapes Go.ChangeAt Go.RowKit
theorem gLengths : Tryd.prog.globalNamed "postbag/moment.lengths" = some 0 := by kernel_rfl
theorem tLengths : (Tryd.prog.globals[0]?).map (·.type) = some 86 := by kernel_rfl
theorem door_met (os : Os) (args : Array Value) : laidMetH Tryd.prog [("postbag/moment.lengths", Rows.laid_postbag_moment_lengths)] ((World.doorLaid Tryd.prog 400 os).forCall (fun _ _ => 0) ⟨#[], args, []⟩).memory :=
  laidMetH_of_parts3 (fuel := 8) (laidMet_of_run' 8 (by kernel_rfl) (by kernel_rfl)) (by kernel_rfl) (by kernel_rfl)
theorem of_laid {W : World} (h : laidMetH Tryd.prog [("postbag/moment.lengths", Rows.laid_postbag_moment_lengths)] W) : Laid W := by
  rw [MakeChecks.laidMetH_plain _ _ _ (by kernel_rfl)] at h
  obtain ⟨ps, ⟨g1, t1, cs1, f1, p1, q1, hg1, ht1, hv1, hd1, _, _⟩, _, _⟩ := h
  obtain rfl := Option.some.inj (gLengths.symm.trans hg1)
  obtain rfl := Option.some.inj (tLengths.symm.trans ht1)
  obtain ⟨xs, m1, rfl, hx1, hlen, hn3, hel⟩ := DataW.trod_array Tryd.underlying86 hd1
  have c3 : Tryd.prog.cellsOf 3 = 1 := by kernel_rfl
  simp only [Prod.mk.injEq, Rows.laid_postbag_moment_lengths, DataW.agg.injEq] at hx1
  have hcell : ∀ j, j < 12 → W.cell? ⟨0, j, none⟩ = some (.int .i64 (monthDays.getD j 0)) := by
    intro j hj
    have hj1 : j < xs.length := by omega
    have he := hel j hj
    rw [List.getElem?_eq_getElem hj1] at he
    obtain ⟨k, e1, e2, _⟩ := DataW.trod_int Tryd.underlying3 he
    have e3 : (xs.map (·.1))[j]? = some (.lit (.int .i64 k)) := by rw [List.getElem?_map, List.getElem?_eq_getElem hj1, e2]; rfl
    rw [← hx1.1] at e3
    have hk : k = monthDays.getD j 0 := by
      have hc : j = 0 ∨ j = 1 ∨ j = 2 ∨ j = 3 ∨ j = 4 ∨ j = 5 ∨ j = 6 ∨ j = 7 ∨ j = 8 ∨ j = 9 ∨ j = 10 ∨ j = 11 := by omega
      rcases hc with rfl | rfl | rfl | rfl | rfl | rfl | rfl | rfl | rfl | rfl | rfl | rfl <;> (simp at e3; rw [← e3]; rfl)
    rw [World.var?_cell hg1 hv1 j]
    rw [c3, Nat.mul_one] at e1
    have e4 : (cs1.toList.drop j)[0]? = some (.int .i64 k) := by
      have := congrArg (fun l => l[0]?) e1
      simpa [List.getElem?_take] using this
    rw [List.getElem?_drop, Nat.add_zero, Array.getElem?_toList] at e4
    rw [e4, hk]
  refine ⟨?_, hcell⟩
  have := hcell 0 (by omega)
  exact World.block_lt_of_cell? W ⟨0, 0, none⟩ this
end Go.Proofs.YtjlchnmpebdggaaDoor.Mo
end
