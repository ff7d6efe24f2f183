import Derived.Test.YtjlchnmpebdggaaDoorPrt5
import Derived.Test.YtjlchnmpebdggaaDoorPrt4
import Derived.Test.YtjlchnmpebdggaaDoorPrt1
import Derived.Test.YtjlchnmpebdggaaDoorPrt2
import Derived.Test.YtjlchnmpebdggaaDoorPrt3
section
namespace Go.Proofs.YtjlchnmpebdggaaDoor.Mo
open Go.RowKit Go.Proofs.YtjlchnmpebdggaaDoorW.PrintWords
def internalT (y m d h mi s z : Int) : ByteArray := padP d ++ dashP y m ++ ⟨#[32]⟩ ++ clockP h mi s z
def printInternalP (y m d h mi s z : Int) : ByteArray × Int := if refuseP y m d h mi s z = 0 then (internalT y m d h mi s z, 0) else (⟨#[]⟩, refuseP y m d h mi s z)
theorem dashP_size (y m : Int) (h1 : 1 ≤ m) (h2 : m ≤ 12) : (dashP y m).size = 9 := by
  unfold dashP
  rw [ByteArray.size_append, ByteArray.size_append, ByteArray.size_append, month_size _ (by omega), fourP_size]
  rfl
theorem refuse_zero {y m d h mi s z : Int} (hr : refuseP y m d h mi s z = 0) : isDayB y m d = true ∧ validB y m d h mi s z = true := by
  unfold refuseP at hr
  split at hr
  · split at hr
    · exact ⟨‹_›, ‹_›⟩
    · exact absurd hr (by decide)
  · exact absurd hr (by decide)
set_option maxHeartbeats 4000000 in
set_option maxRecDepth 100000 in
theorem printInternal_calls (y m d h mi s z : Int) (w : World) (hL : Laid w) :
    Calls Tryd.prog 29 #[.agg #[.int .i64 y, .int .i64 m, .int .i64 d, .int .i64 h, .int .i64 mi, .int .i64 s, .int .i64 z]] w fun e w' => e = .returned (.tuple #[.string (printInternalP y m d h mi s z).1, .int .i64 (printInternalP y m d h mi s z).2]) ∧ Below w.heap.size w w' := by
  have HL := Lib.hid (laid_below hL (below_alloc (Below.refl _ w) (.cells #[.int .i64 y, .int .i64 m, .int .i64 d, .int .i64 h, .int .i64 mi, .int .i64 s, .int .i64 z] 23)))
  have HR := Lib.hid (refused_f y m d h mi s z)
  by_cases hr : refuseP y m d h mi s z = 0
  · obtain ⟨hd, hv⟩ := refuse_zero hr
    have hdd := (isDay_iff y m d).1 hd
    have htt := (time_iff h mi s z).1 ((valid_iff y m d h mi s z).1 hv).2
    have hp : printInternalP y m d h mi s z = (internalT y m d h mi s z, 0) := if_pos hr
    rw [hp]
    have hpl := plain_f d
    have hds := dashP_size y m (by omega) (by omega)
    have hda : moment_dashed.f y m d h mi s z = some (dashP y m) := if_pos ⟨by omega, by omega⟩
    have hck : moment_clock.f y m d h mi s z = some (clockP h mi s z) := if_pos ⟨by omega, by omega⟩
    have hcs := clockP_size h mi s z
    rw [hr] at HR
    have HPL := Lib.hid hpl
    have HDA := Lib.hid hda
    have HCK := Lib.hid hck
    have hps := plainP_size d
    have HI : Hid (internalT y m d h mi s z = (if (plainP d).size = 1 then (⟨#[32]⟩ : ByteArray) ++ plainP d else plainP d) ++ dashP y m ++ ⟨#[32]⟩ ++ clockP h mi s z) := Lib.hid rfl
    generalize plainP d = pd at *
    generalize dashP y m = da at *
    generalize clockP h mi s z = ck at *
    clear hL hr hd hv hdd htt hp hpl hda hck
    have arm : True := trivial
    rcases hps with h1 | h2
    · have e : Hid (internalT y m d h mi s z = (⟨#[32]⟩ : ByteArray) ++ pd ++ da ++ ⟨#[32]⟩ ++ ck) := Lib.hid (by rw [HI.out, if_pos h1])
      clear HI
      go_enter Tryd.func29, Tryd.ntmps29
      go_wp2_with fail
      refine (moment_refused.calls _ _ _ _ _ _ _ 0 _ HR.out HL.out).mono ?_
      rintro e1 w1 ⟨rfl, hb1⟩
      have HB1 := Lib.hid (below_step (below_alloc (Below.refl _ w) _) hb1)
      have hbx := (hb1.block w.heap.size (by simp)).trans (heap_alloc_new w _)
      obtain ⟨⟨c0, c1, c2, c3, c4, c5, c6⟩, _⟩ := cells7 hbx
      have HBX := Lib.hid hbx
      clear hb1 hbx
      go_wp2_with fail
      refine (moment_plain.calls _ pd _ HPL.out).mono ?_
      rintro e1 w2 ⟨rfl, hb1⟩
      have HB := Lib.hid (below_step HB1.out hb1)
      have hbx := (hb1.block w.heap.size (blk_lt HBX.out)).trans HBX.out
      clear c0 c1 c2 c3 c4 c5 c6 HB1 HBX
      obtain ⟨⟨c0, c1, c2, c3, c4, c5, c6⟩, _⟩ := cells7 hbx
      clear hb1 hbx
      go_wp2_with fail
      go_region_held3 (fun w' => w'.cell? ⟨w.heap.size, 0, none⟩ = some (.int .i64 y) ∧ w'.cell? ⟨w.heap.size, 1, none⟩ = some (.int .i64 m) ∧ w'.cell? ⟨w.heap.size, 2, none⟩ = some (.int .i64 d) ∧ w'.cell? ⟨w.heap.size, 3, none⟩ = some (.int .i64 h) ∧ w'.cell? ⟨w.heap.size, 4, none⟩ = some (.int .i64 mi) ∧ w'.cell? ⟨w.heap.size, 5, none⟩ = some (.int .i64 s) ∧ w'.cell? ⟨w.heap.size, 6, none⟩ = some (.int .i64 z)) (go_keep) ((first | (go_at_call 50; (with_reducible refine (moment_dashed.calls y m d h mi s z _ _ HDA.out).mono ?_); rintro e1 w3 ⟨rfl, hb⟩; have n0_ := Lib.hid (below_step (by repeat (first | (with_reducible exact HB.out) | (with_reducible apply below_drew) | (with_reducible apply pw_below_drewN) | exact HB.out)) hb); clear HB; have HB := n0_; clear n0_; have k0 := pw_cell_below hb (a := ⟨w.heap.size, 0, none⟩) (v := .int .i64 y) (by first | assumption | go_simp); have k1 := pw_cell_below hb (a := ⟨w.heap.size, 1, none⟩) (v := .int .i64 m) (by first | assumption | go_simp); have k2 := pw_cell_below hb (a := ⟨w.heap.size, 2, none⟩) (v := .int .i64 d) (by first | assumption | go_simp); have k3 := pw_cell_below hb (a := ⟨w.heap.size, 3, none⟩) (v := .int .i64 h) (by first | assumption | go_simp); have k4 := pw_cell_below hb (a := ⟨w.heap.size, 4, none⟩) (v := .int .i64 mi) (by first | assumption | go_simp); have k5 := pw_cell_below hb (a := ⟨w.heap.size, 5, none⟩) (v := .int .i64 s) (by first | assumption | go_simp); have k6 := pw_cell_below hb (a := ⟨w.heap.size, 6, none⟩) (v := .int .i64 z) (by first | assumption | go_simp); clear hb) | (go_at_call 64; (with_reducible refine (moment_clock.calls y m d h mi s z _ _ HCK.out).mono ?_); rintro e1 w4 ⟨rfl, hb⟩; have n0_ := Lib.hid (below_step (by repeat (first | (with_reducible exact HB.out) | (with_reducible apply below_drew) | (with_reducible apply pw_below_drewN) | exact HB.out)) hb); clear HB; have HB := n0_; clear n0_; have k0 := pw_cell_below hb (a := ⟨w.heap.size, 0, none⟩) (v := .int .i64 y) (by first | assumption | go_simp); have k1 := pw_cell_below hb (a := ⟨w.heap.size, 1, none⟩) (v := .int .i64 m) (by first | assumption | go_simp); have k2 := pw_cell_below hb (a := ⟨w.heap.size, 2, none⟩) (v := .int .i64 d) (by first | assumption | go_simp); have k3 := pw_cell_below hb (a := ⟨w.heap.size, 3, none⟩) (v := .int .i64 h) (by first | assumption | go_simp); have k4 := pw_cell_below hb (a := ⟨w.heap.size, 4, none⟩) (v := .int .i64 mi) (by first | assumption | go_simp); have k5 := pw_cell_below hb (a := ⟨w.heap.size, 5, none⟩) (v := .int .i64 s) (by first | assumption | go_simp); have k6 := pw_cell_below hb (a := ⟨w.heap.size, 6, none⟩) (v := .int .i64 z) (by first | assumption | go_simp); clear hb)))
      all_goals go_wp2
      all_goals go_ret2
      all_goals exact ⟨by rw [e.out]; rfl, HB.out⟩
    · have e : Hid (internalT y m d h mi s z = pd ++ da ++ ⟨#[32]⟩ ++ ck) := Lib.hid (by rw [HI.out, if_neg (by omega)])
      clear HI
      go_enter Tryd.func29, Tryd.ntmps29
      go_wp2_with fail
      refine (moment_refused.calls _ _ _ _ _ _ _ 0 _ HR.out HL.out).mono ?_
      rintro e1 w1 ⟨rfl, hb1⟩
      have HB1 := Lib.hid (below_step (below_alloc (Below.refl _ w) _) hb1)
      have hbx := (hb1.block w.heap.size (by simp)).trans (heap_alloc_new w _)
      obtain ⟨⟨c0, c1, c2, c3, c4, c5, c6⟩, _⟩ := cells7 hbx
      have HBX := Lib.hid hbx
      clear hb1 hbx
      go_wp2_with fail
      refine (moment_plain.calls _ pd _ HPL.out).mono ?_
      rintro e1 w2 ⟨rfl, hb1⟩
      have HB := Lib.hid (below_step HB1.out hb1)
      have hbx := (hb1.block w.heap.size (blk_lt HBX.out)).trans HBX.out
      clear c0 c1 c2 c3 c4 c5 c6 HB1 HBX
      obtain ⟨⟨c0, c1, c2, c3, c4, c5, c6⟩, _⟩ := cells7 hbx
      clear hb1 hbx
      go_wp2_with fail
      go_region_held3 (fun w' => w'.cell? ⟨w.heap.size, 0, none⟩ = some (.int .i64 y) ∧ w'.cell? ⟨w.heap.size, 1, none⟩ = some (.int .i64 m) ∧ w'.cell? ⟨w.heap.size, 2, none⟩ = some (.int .i64 d) ∧ w'.cell? ⟨w.heap.size, 3, none⟩ = some (.int .i64 h) ∧ w'.cell? ⟨w.heap.size, 4, none⟩ = some (.int .i64 mi) ∧ w'.cell? ⟨w.heap.size, 5, none⟩ = some (.int .i64 s) ∧ w'.cell? ⟨w.heap.size, 6, none⟩ = some (.int .i64 z)) (go_keep) ((first | (go_at_call 50; (with_reducible refine (moment_dashed.calls y m d h mi s z _ _ HDA.out).mono ?_); rintro e1 w3 ⟨rfl, hb⟩; have n0_ := Lib.hid (below_step (by repeat (first | (with_reducible exact HB.out) | (with_reducible apply below_drew) | (with_reducible apply pw_below_drewN) | exact HB.out)) hb); clear HB; have HB := n0_; clear n0_; have k0 := pw_cell_below hb (a := ⟨w.heap.size, 0, none⟩) (v := .int .i64 y) (by first | assumption | go_simp); have k1 := pw_cell_below hb (a := ⟨w.heap.size, 1, none⟩) (v := .int .i64 m) (by first | assumption | go_simp); have k2 := pw_cell_below hb (a := ⟨w.heap.size, 2, none⟩) (v := .int .i64 d) (by first | assumption | go_simp); have k3 := pw_cell_below hb (a := ⟨w.heap.size, 3, none⟩) (v := .int .i64 h) (by first | assumption | go_simp); have k4 := pw_cell_below hb (a := ⟨w.heap.size, 4, none⟩) (v := .int .i64 mi) (by first | assumption | go_simp); have k5 := pw_cell_below hb (a := ⟨w.heap.size, 5, none⟩) (v := .int .i64 s) (by first | assumption | go_simp); have k6 := pw_cell_below hb (a := ⟨w.heap.size, 6, none⟩) (v := .int .i64 z) (by first | assumption | go_simp); clear hb) | (go_at_call 64; (with_reducible refine (moment_clock.calls y m d h mi s z _ _ HCK.out).mono ?_); rintro e1 w4 ⟨rfl, hb⟩; have n0_ := Lib.hid (below_step (by repeat (first | (with_reducible exact HB.out) | (with_reducible apply below_drew) | (with_reducible apply pw_below_drewN) | exact HB.out)) hb); clear HB; have HB := n0_; clear n0_; have k0 := pw_cell_below hb (a := ⟨w.heap.size, 0, none⟩) (v := .int .i64 y) (by first | assumption | go_simp); have k1 := pw_cell_below hb (a := ⟨w.heap.size, 1, none⟩) (v := .int .i64 m) (by first | assumption | go_simp); have k2 := pw_cell_below hb (a := ⟨w.heap.size, 2, none⟩) (v := .int .i64 d) (by first | assumption | go_simp); have k3 := pw_cell_below hb (a := ⟨w.heap.size, 3, none⟩) (v := .int .i64 h) (by first | assumption | go_simp); have k4 := pw_cell_below hb (a := ⟨w.heap.size, 4, none⟩) (v := .int .i64 mi) (by first | assumption | go_simp); have k5 := pw_cell_below hb (a := ⟨w.heap.size, 5, none⟩) (v := .int .i64 s) (by first | assumption | go_simp); have k6 := pw_cell_below hb (a := ⟨w.heap.size, 6, none⟩) (v := .int .i64 z) (by first | assumption | go_simp); clear hb)))
      all_goals go_wp2
      all_goals go_ret2
      all_goals exact ⟨by rw [e.out]; rfl, HB.out⟩
  · have hp : printInternalP y m d h mi s z = (⟨#[]⟩, refuseP y m d h mi s z) := if_neg hr
    rw [hp]
    generalize refuseP y m d h mi s z = q at *
    have hq : (q != 0) = true := by rw [bne_iff_ne]; exact hr
    clear hL hp hr
    go_enter Tryd.func29, Tryd.ntmps29
    go_wp2_with fail
    refine (moment_refused.calls _ _ _ _ _ _ _ q _ HR.out HL.out).mono ?_
    rintro e1 w1 ⟨rfl, hb1⟩
    have HB1 := Lib.hid (below_step (below_alloc (Below.refl _ w) _) hb1)
    clear hb1
    go_wp2
    go_ret2
    exact ⟨rfl, HB1.out⟩
def moment_PrintInternal.f (y m d h mi s z : Int) : Option (ByteArray × Int) := some (printInternalP y m d h mi s z)
theorem moment_PrintInternal.calls (a0_0 a0_1 a0_2 a0_3 a0_4 a0_5 a0_6 : Int) (r1 : ByteArray) (r2 : Int) (w : World) (h : moment_PrintInternal.f a0_0 a0_1 a0_2 a0_3 a0_4 a0_5 a0_6 = some (r1, r2)) (hL : Laid w) :
    Calls Tryd.prog 29 #[.agg #[.int .i64 a0_0, .int .i64 a0_1, .int .i64 a0_2, .int .i64 a0_3, .int .i64 a0_4, .int .i64 a0_5, .int .i64 a0_6]] w fun e w' => e = .returned (.tuple #[.string r1, .int .i64 r2]) ∧ Below w.heap.size w w' := by
  have h := Option.some.inj h
  have h2 := printInternal_calls a0_0 a0_1 a0_2 a0_3 a0_4 a0_5 a0_6 w hL
  rw [h] at h2
  exact h2
end Go.Proofs.YtjlchnmpebdggaaDoor.Mo
end
section
namespace Go.Proofs.YtjlchnmpebdggaaDoor.Mo
open Go.RowKit Go.Proofs.YtjlchnmpebdggaaDoorW.PrintWords
def text1 : ByteArray := ⟨#[32, 49, 45, 70, 101, 98, 45, 50, 48, 50, 54, 32, 49, 48, 58, 48, 48, 58, 48, 48, 32, 43, 48, 49, 48, 48]⟩
def text2 : ByteArray := ⟨#[49, 32, 70, 101, 98, 32, 50, 48, 50, 54, 32, 49, 48, 58, 48, 48, 32, 43, 48, 49, 48, 48]⟩
theorem kn_print : moment_PrintInternal.f 2026 2 1 10 0 0 60 = some (text1, 0) := by kernel_rfl
theorem kn_read : moment_ReadInternal.f text1 = some (2026, 2, 1, 10, 0, 0, 60, 0) := by kernel_rfl
theorem kn_head : moment_ReadHeader.f text2 = some (2026, 2, 1, 10, 0, 0, 60, 0) := by kernel_rfl
theorem kn_valid : moment_Valid.f 2026 2 1 10 0 0 60 = some true := by kernel_rfl
theorem kn_week : moment_Weekday.f 20 2026 2 1 10 0 0 60 = some 0 := by kernel_rfl
theorem kn_days : moment_Days.f 20 2026 2 1 10 0 0 60 = some 20485 := by kernel_rfl
set_option maxHeartbeats 4000000 in
set_option maxRecDepth 100000 in
theorem known_calls (w : World) (hL : Laid w) : Calls Tryd.prog 15 #[] w fun e w' => e = .returned (.bool true) ∧ Below w.heap.size w w' := by
  have HL := Lib.hid hL
  clear hL
  have K1 := Lib.hid kn_print
  have K2 := Lib.hid kn_read
  have K3 := Lib.hid kn_head
  have K4 := Lib.hid kn_valid
  have K5 := Lib.hid kn_week
  have K6 := Lib.hid kn_days
  go_enter Tryd.func15, Tryd.ntmps15
  go_wp2_with fail
  have HA := Lib.hid (heap_alloc_new w (.cells #[.int .i64 2026, .int .i64 2, .int .i64 1, .int .i64 10, .int .i64 0, .int .i64 0, .int .i64 60] 23))
  have HB := Lib.hid (below_alloc (Below.refl _ w) (.cells #[.int .i64 2026, .int .i64 2, .int .i64 1, .int .i64 10, .int .i64 0, .int .i64 0, .int .i64 60] 23))
  generalize w.alloc (.cells #[.int .i64 2026, .int .i64 2, .int .i64 1, .int .i64 10, .int .i64 0, .int .i64 0, .int .i64 60] 23) = w0 at *
  refine (moment_PrintInternal.calls 2026 2 1 10 0 0 60 text1 0 _ K1.out (laid_below HL.out (by repeat (first | (with_reducible exact HB.out) | (with_reducible apply below_drew) | (with_reducible apply pw_below_drewN) | exact HB.out)))).mono ?_
  rintro e w1 ⟨rfl, hb⟩
  have n0_ := Lib.hid (below_step (by repeat (first | (with_reducible exact HB.out) | (with_reducible apply below_drew) | (with_reducible apply pw_below_drewN) | exact HB.out)) hb)
  clear HB
  have HB := n0_
  clear n0_
  have n0_ := Lib.hid ((hb.block _ (blk_lt HA.out)).trans HA.out)
  clear HA
  have HA := n0_
  clear n0_
  clear hb
  go_wp2_with fail
  refine (moment_ReadInternal.calls text1 2026 2 1 10 0 0 60 0 _ K2.out (laid_below HL.out (by repeat (first | (with_reducible exact HB.out) | (with_reducible apply below_drew) | (with_reducible apply pw_below_drewN) | exact HB.out)))).mono ?_
  rintro e w2 ⟨rfl, hb⟩
  have n0_ := Lib.hid (below_step (by repeat (first | (with_reducible exact HB.out) | (with_reducible apply below_drew) | (with_reducible apply pw_below_drewN) | exact HB.out)) hb)
  clear HB
  have HB := n0_
  clear n0_
  have n0_ := Lib.hid ((hb.block _ (blk_lt HA.out)).trans HA.out)
  clear HA
  have HA := n0_
  clear n0_
  clear hb
  go_wp2_with fail
  have n1_ := Lib.hid (heap_alloc_new w2 (.cells #[.int .i64 2026, .int .i64 2, .int .i64 1, .int .i64 10, .int .i64 0, .int .i64 0, .int .i64 60] 23))
  have n0_ := Lib.hid ((Below.heap_alloc w2 (.cells #[.int .i64 2026, .int .i64 2, .int .i64 1, .int .i64 10, .int .i64 0, .int .i64 0, .int .i64 60] 23) _ (blk_lt HA.out)).trans HA.out)
  clear HA
  have HA := n0_
  clear n0_
  have HX := n1_
  clear n1_
  have n0_ := Lib.hid (below_alloc HB.out (.cells #[.int .i64 2026, .int .i64 2, .int .i64 1, .int .i64 10, .int .i64 0, .int .i64 0, .int .i64 60] 23))
  clear HB
  have HB := n0_
  clear n0_
  generalize w2.alloc (.cells #[.int .i64 2026, .int .i64 2, .int .i64 1, .int .i64 10, .int .i64 0, .int .i64 0, .int .i64 60] 23) = w3 at *
  refine (moment_ReadHeader.calls text2 2026 2 1 10 0 0 60 0 _ K3.out (laid_below HL.out (by repeat (first | (with_reducible exact HB.out) | (with_reducible apply below_drew) | (with_reducible apply pw_below_drewN) | exact HB.out)))).mono ?_
  rintro e w4 ⟨rfl, hb⟩
  have n0_ := Lib.hid (below_step (by repeat (first | (with_reducible exact HB.out) | (with_reducible apply below_drew) | (with_reducible apply pw_below_drewN) | exact HB.out)) hb)
  clear HB
  have HB := n0_
  clear n0_
  have n0_ := Lib.hid ((hb.block _ (blk_lt HA.out)).trans HA.out)
  clear HA
  have HA := n0_
  clear n0_
  have n0_ := Lib.hid ((hb.block _ (blk_lt HX.out)).trans HX.out)
  clear HX
  have HX := n0_
  clear n0_
  clear hb
  go_upto_region 5 with fail
  have n1_ := Lib.hid (heap_alloc_new w4 (.cells #[.int .i64 2026, .int .i64 2, .int .i64 1, .int .i64 10, .int .i64 0, .int .i64 0, .int .i64 60] 23))
  have n0_ := Lib.hid ((Below.heap_alloc w4 (.cells #[.int .i64 2026, .int .i64 2, .int .i64 1, .int .i64 10, .int .i64 0, .int .i64 0, .int .i64 60] 23) _ (blk_lt HA.out)).trans HA.out)
  clear HA
  have HA := n0_
  clear n0_
  have n0_ := Lib.hid ((Below.heap_alloc w4 (.cells #[.int .i64 2026, .int .i64 2, .int .i64 1, .int .i64 10, .int .i64 0, .int .i64 0, .int .i64 60] 23) _ (blk_lt HX.out)).trans HX.out)
  clear HX
  have HX := n0_
  clear n0_
  have HH := n1_
  clear n1_
  have n0_ := Lib.hid (below_alloc HB.out (.cells #[.int .i64 2026, .int .i64 2, .int .i64 1, .int .i64 10, .int .i64 0, .int .i64 0, .int .i64 60] 23))
  clear HB
  have HB := n0_
  clear n0_
  generalize w4.alloc (.cells #[.int .i64 2026, .int .i64 2, .int .i64 1, .int .i64 10, .int .i64 0, .int .i64 0, .int .i64 60] 23) = w5 at *
  obtain ⟨⟨a0, a1, a2, a3, a4, a5, a6⟩, _⟩ := cells7 HA.out
  obtain ⟨⟨x0, x1, x2, x3, x4, x5, x6⟩, _⟩ := cells7 HX.out
  obtain ⟨⟨y0, y1, y2, y3, y4, y5, y6⟩, _⟩ := cells7 HH.out
  go_wp2_with fail
  clear a0 a1 a2 a3 a4 a5 a6
  clear x0 x1 x2 x3 x4 x5 x6
  clear y0 y1 y2 y3 y4 y5 y6
  refine (moment_Valid.calls 2026 2 1 10 0 0 60 true _ K4.out (laid_below HL.out (by repeat (first | (with_reducible exact HB.out) | (with_reducible apply below_drew) | (with_reducible apply pw_below_drewN) | exact HB.out)))).mono ?_
  rintro e w6 ⟨rfl, hb⟩
  have n0_ := Lib.hid (below_step (by repeat (first | (with_reducible exact HB.out) | (with_reducible apply below_drew) | (with_reducible apply pw_below_drewN) | exact HB.out)) hb)
  clear HB
  have HB := n0_
  clear n0_
  have n0_ := Lib.hid ((hb.block _ (blk_lt HA.out)).trans HA.out)
  clear HA
  have HA := n0_
  clear n0_
  clear hb
  obtain ⟨⟨a0, a1, a2, a3, a4, a5, a6⟩, _⟩ := cells7 HA.out
  go_wp2_with fail
  clear a0 a1 a2 a3 a4 a5 a6
  refine (moment_Weekday.calls 20 2026 2 1 10 0 0 60 0 _ K5.out (laid_below HL.out (by repeat (first | (with_reducible exact HB.out) | (with_reducible apply below_drew) | (with_reducible apply pw_below_drewN) | exact HB.out)))).mono ?_
  rintro e w7 ⟨rfl, hb⟩
  have n0_ := Lib.hid (below_step (by repeat (first | (with_reducible exact HB.out) | (with_reducible apply below_drew) | (with_reducible apply pw_below_drewN) | exact HB.out)) hb)
  clear HB
  have HB := n0_
  clear n0_
  have n0_ := Lib.hid ((hb.block _ (blk_lt HA.out)).trans HA.out)
  clear HA
  have HA := n0_
  clear n0_
  clear hb
  obtain ⟨⟨a0, a1, a2, a3, a4, a5, a6⟩, _⟩ := cells7 HA.out
  go_wp2_with fail
  clear a0 a1 a2 a3 a4 a5 a6
  refine (moment_Days.calls 20 2026 2 1 10 0 0 60 20485 _ K6.out (laid_below HL.out (by repeat (first | (with_reducible exact HB.out) | (with_reducible apply below_drew) | (with_reducible apply pw_below_drewN) | exact HB.out)))).mono ?_
  rintro e w8 ⟨rfl, hb⟩
  have n0_ := Lib.hid (below_step (by repeat (first | (with_reducible exact HB.out) | (with_reducible apply below_drew) | (with_reducible apply pw_below_drewN) | exact HB.out)) hb)
  clear HB
  have HB := n0_
  clear n0_
  have n0_ := Lib.hid ((hb.block _ (blk_lt HA.out)).trans HA.out)
  clear HA
  have HA := n0_
  clear n0_
  clear hb
  go_wp2
  go_ret
  exact ⟨rfl, HB.out⟩
def postbaglaw2_known.f : Option Bool := some true
theorem postbaglaw2_known.calls (r : Bool) (w : World) (h : postbaglaw2_known.f = some r) (hL : Laid w) :
    Calls Tryd.prog 15 #[] w fun e w' => e = .returned (.bool r) ∧ Below w.heap.size w w' := by
  obtain rfl : true = r := Option.some.inj h
  exact known_calls w hL
end Go.Proofs.YtjlchnmpebdggaaDoor.Mo
end
section
namespace Go.Proofs.YtjlchnmpebdggaaDoor.Mo
open Go.RowKit Go.Proofs.YtjlchnmpebdggaaDoorW.PrintWords Go.Proofs.YtjlchnmpebdggaaDoorW.PrintLast Go.Proofs.YtjlchnmpebdggaaDoorW.PrintMore
attribute [local go_sem] max2_int min2_int max_two min_two max_three min_three max_four min_four   -- for this text's walks alone
set_option linter.unusedVariables false
set_option linter.unusedSimpArgs false
end Go.Proofs.YtjlchnmpebdggaaDoor.Mo
end
section
namespace Go.Proofs.YtjlchnmpebdggaaDoor.Mo
open Go.RowKit Go.Proofs.YtjlchnmpebdggaaDoorW.PrintWords Go.Proofs.YtjlchnmpebdggaaDoorW.PrintLast Go.Proofs.YtjlchnmpebdggaaDoorW.PrintMore
attribute [local go_sem] max2_int min2_int max_two min_two max_three min_three max_four min_four   -- for this text's walks alone
set_option linter.unusedVariables false
set_option linter.unusedSimpArgs false
end Go.Proofs.YtjlchnmpebdggaaDoor.Mo
end
section
namespace Go.Proofs.YtjlchnmpebdggaaDoor.Mo
open Go.RowKit Go.Proofs.YtjlchnmpebdggaaDoorW.PrintWords Go.Proofs.YtjlchnmpebdggaaDoorW.PrintLast Go.Proofs.YtjlchnmpebdggaaDoorW.PrintMore
attribute [local go_sem] max2_int min2_int max_two min_two max_three min_three max_four min_four   -- for this text's walks alone
set_option linter.unusedVariables false
set_option linter.unusedSimpArgs false
end Go.Proofs.YtjlchnmpebdggaaDoor.Mo
end
section
namespace Go.Proofs.YtjlchnmpebdggaaDoor.Mo
open Go.RowKit Go.Proofs.YtjlchnmpebdggaaDoorW.PrintWords Go.Proofs.YtjlchnmpebdggaaDoorW.PrintLast Go.Proofs.YtjlchnmpebdggaaDoorW.PrintMore
attribute [local go_sem] max2_int min2_int max_two min_two max_three min_three max_four min_four   -- for this text's walks alone
set_option linter.unusedVariables false
set_option linter.unusedSimpArgs false
end Go.Proofs.YtjlchnmpebdggaaDoor.Mo
end
section
namespace Go.Proofs.YtjlchnmpebdggaaDoor.Mo
open Go.RowKit Go.Proofs.YtjlchnmpebdggaaDoorW.PrintWords
theorem w64 (n : Int) (h0 : -1000000000000000 ≤ n) (h1 : n ≤ 1000000000000000) : wrap64 n = n := IntWalk.wrap64_in _ ⟨by omega, by omega⟩
theorem month_cases {m : Int} (h1 : 1 ≤ m) (h2 : m ≤ 12) : m = 1 ∨ m = 2 ∨ m = 3 ∨ m = 4 ∨ m = 5 ∨ m = 6 ∨ m = 7 ∨ m = 8 ∨ m = 9 ∨ m = 10 ∨ m = 11 ∨ m = 12 := by omega
theorem length_range (y m : Int) (h1 : 1 ≤ m) (h2 : m ≤ 12) : 28 ≤ lengthP y m ∧ lengthP y m ≤ 31 := by
  unfold lengthP
  rcases month_cases h1 h2 with rfl | rfl | rfl | rfl | rfl | rfl | rfl | rfl | rfl | rfl | rfl | rfl <;> split <;> decide
def dby (y : Int) : Int := 365 * (y - 1) + (y - 1) / 4 - (y - 1) / 100 + (y - 1) / 400
def cumN (y : Int) : Nat → Int
  | 0 => 0
  | n + 1 => cumN y n + lengthP y ((n : Int) + 1)
theorem cumN_range (y : Int) : ∀ n : Nat, n ≤ 12 → 0 ≤ cumN y n ∧ cumN y n ≤ 31 * n
  | 0, _ => by unfold cumN; omega
  | n + 1, h => by
    have h1 := cumN_range y n (by omega)
    have h2 := length_range y ((n : Int) + 1) (by omega) (by omega)
    unfold cumN
    omega
def daysP (y m d : Int) : Int := dby y + cumN y (m - 1).toNat + d - 1 - 719162
theorem cum_step (y : Int) (j : Nat) (hj : 1 ≤ j) : cumN y j = cumN y (j - 1) + lengthP y (j : Int) := by
  obtain ⟨q, rfl⟩ : ∃ q, j = q + 1 := ⟨j - 1, by omega⟩
  have e : cumN y (q + 1) = cumN y q + lengthP y ((q : Int) + 1) := rfl
  rw [e, show q + 1 - 1 = q from rfl, show ((q + 1 : Nat) : Int) = (q : Int) + 1 from by omega]
theorem valid_facts {y m d h mi s z : Int} (hv : validB y m d h mi s z = true) : (1 ≤ y ∧ y ≤ 9999 ∧ 1 ≤ m ∧ m ≤ 12 ∧ 1 ≤ d ∧ d ≤ lengthP y m) ∧ (0 ≤ h ∧ h ≤ 23 ∧ 0 ≤ mi ∧ mi ≤ 59 ∧ 0 ≤ s ∧ s ≤ 59 ∧ -1439 ≤ z ∧ z ≤ 1439) :=
  ⟨(isDay_iff y m d).1 ((valid_iff y m d h mi s z).1 hv).1, (time_iff h mi s z).1 ((valid_iff y m d h mi s z).1 hv).2⟩
def daysV (y m d h mi s z : Int) : Int := if validB y m d h mi s z = true then daysP y m d else 0
end Go.Proofs.YtjlchnmpebdggaaDoor.Mo
end
section
namespace Go.Proofs.YtjlchnmpebdggaaDoor.Mo
open Go.RowKit Go.Proofs.YtjlchnmpebdggaaDoorW.PrintWords
set_option maxRecDepth 100000 in
theorem mom_l0 (y m d h mi s z : Int) : ∀ (n k j : Nat) (x4 : Int), 1 ≤ j → m = j + n → m ≤ 12 → n + 1 < k → -10000000 ≤ x4 → x4 ≤ 10000000 - 31 * n →
    moment_Days.l0 k x4 j y m d h mi s z = some (x4 + (cumN y (j - 1 + n) - cumN y (j - 1)) - 719162) := by
  intro n
  induction n with
  | zero =>
    intro k j x4 _ hm _ hk h0 h1
    obtain ⟨k, rfl⟩ : ∃ q, k = q + 1 := ⟨k - 1, by omega⟩
    simp only [moment_Days.l0]
    rw [if_neg (by omega), w64 _ (by omega) (by omega)]
    congr 1
    simp
  | succ n ih =>
    intro k j x4 hj hm hm12 hk h0 h1
    obtain ⟨k, rfl⟩ : ∃ q, k = q + 1 := ⟨k - 1, by omega⟩
    have hl := length_range y (j : Int) (by omega) (by omega)
    have hlf : moment_length.f y (j : Int) = some (lengthP y (j : Int)) := if_pos ⟨by omega, by omega⟩
    simp only [moment_Days.l0]
    rw [if_pos (by omega), hlf]
    simp only [Option.bind_some]
    have hc := cum_step y j hj
    rw [w64 _ (by omega) (by omega), w64 _ (by omega) (by omega), show (j : Int) + 1 = ((j + 1 : Nat) : Int) from by omega, ih k (j + 1) (x4 + lengthP y (j : Int)) (by omega) (by omega) hm12 (by omega) (by omega) (by omega)]
    congr 1
    rw [show j + 1 - 1 = j from by omega, show j - 1 + (n + 1) = j + n from by omega]
    omega
theorem dby_open (y : Int) (h1 : 1 ≤ y) (h2 : y ≤ 9999) (d : Int) (d1 : 1 ≤ d) (d2 : d ≤ 31) :
    wrap64 ((wrap64 ((wrap64 ((wrap64 ((wrap64 ((wrap64 (365 * (wrap64 (y - 1)))) + (wrap64 (Int.tdiv (wrap64 (y - 1)) 4)))) - (wrap64 (Int.tdiv (wrap64 (y - 1)) 100)))) + (wrap64 (Int.tdiv (wrap64 (y - 1)) 400)))) + d)) - 1) = dby y + d - 1 := by
  rw [w64 (y - 1) (by omega) (by omega), Int.tdiv_eq_ediv_of_nonneg (by omega), Int.tdiv_eq_ediv_of_nonneg (by omega), Int.tdiv_eq_ediv_of_nonneg (by omega)]
  rw [w64 (365 * (y - 1)) (by omega) (by omega), w64 ((y - 1) / 4) (by omega) (by omega), w64 ((y - 1) / 100) (by omega) (by omega), w64 ((y - 1) / 400) (by omega) (by omega)]
  rw [w64 (365 * (y - 1) + (y - 1) / 4) (by omega) (by omega), w64 (365 * (y - 1) + (y - 1) / 4 - (y - 1) / 100) (by omega) (by omega), w64 (365 * (y - 1) + (y - 1) / 4 - (y - 1) / 100 + (y - 1) / 400) (by omega) (by omega),
    w64 (365 * (y - 1) + (y - 1) / 4 - (y - 1) / 100 + (y - 1) / 400 + d) (by omega) (by omega), w64 _ (by omega) (by omega)]
  rfl
theorem dby_range (y : Int) (h1 : 1 ≤ y) (h2 : y ≤ 10000) : 0 ≤ dby y ∧ dby y ≤ 3652425 := by unfold dby; omega
theorem days_f (k : Nat) (hk : 20 ≤ k) (y m d h mi s z : Int) : moment_Days.f k y m d h mi s z = some (daysV y m d h mi s z) := by
  unfold moment_Days.f daysV
  rw [valid_f]
  simp only [Option.bind_some]
  cases hv : validB y m d h mi s z with
  | false => rfl
  | true =>
    obtain ⟨⟨a1, a2, a3, a4, a5, a6⟩, _⟩ := valid_facts hv
    have hl := length_range y m a3 a4
    have hd := dby_range y a1 (by omega)
    rw [if_pos rfl, if_pos rfl, dby_open y a1 a2 d a5 (by omega)]
    have := mom_l0 y m d h mi s z (m - 1).toNat k 1 (dby y + d - 1) (by omega) (by omega) a4 (by omega) (by omega) (by omega)
    rw [show ((1 : Nat) : Int) = 1 from rfl] at this
    rw [this]
    congr 1
    have e : cumN y (1 - 1) = 0 := rfl
    rw [e, show 1 - 1 + (m - 1).toNat = (m - 1).toNat from by omega]
    unfold daysP
    omega
theorem daysP_range {y m d h mi s z : Int} (hv : validB y m d h mi s z = true) : -719162 ≤ daysP y m d ∧ daysP y m d ≤ 2934000 := by
  obtain ⟨⟨a1, a2, a3, a4, a5, a6⟩, _⟩ := valid_facts hv
  have hl := length_range y m a3 a4
  have hd := dby_range y a1 (by omega)
  have hc := cumN_range y (m - 1).toNat (by omega)
  unfold daysP
  omega
theorem daysV_range (y m d h mi s z : Int) : -719162 ≤ daysV y m d h mi s z ∧ daysV y m d h mi s z ≤ 2934000 := by
  unfold daysV
  split
  · exact daysP_range ‹_›
  · omega
def weekP7 (y m d h mi s z : Int) : Int := if validB y m d h mi s z = true then (daysP y m d + 4) % 7 else 0
theorem floor_f (a b : Int) (hb : 0 < b) (h0 : -1000000000000 ≤ a) (h1 : a ≤ 1000000000000) (hb1 : b ≤ 1000000) : moment_floor.f a b = some (a / b, a % b) := by
  unfold moment_floor.f
  have hs : Int.sign b = 1 := Int.sign_eq_one_of_pos hb
  have hn : (b.natAbs : Int) = b := Int.natAbs_of_nonneg (by omega)
  have hm0 := Int.emod_nonneg a (show b ≠ 0 by omega)
  have hm1 := Int.emod_lt_of_pos a hb
  have hq : -1000000000000 ≤ a / b ∧ a / b ≤ 1000000000000 := by
    have h := Int.mul_ediv_add_emod a b
    constructor
    · exact Int.le_ediv_of_mul_le hb (by have : -1000000000000 * b ≤ -1000000000000 * 1 := Int.mul_le_mul_of_nonpos_left (by omega) (by omega); omega)
    · by_cases ha : 0 ≤ a
      · exact Int.le_trans (Int.ediv_le_self b ha) h1
      · have : a / b < 0 := Int.ediv_neg_of_neg_of_pos (by omega) hb
        omega
  rw [if_neg (by omega), Int.tdiv_eq_ediv, Int.tmod_eq_emod, hs]
  by_cases hc : 0 ≤ a ∨ b ∣ a
  · rw [if_pos hc, if_pos hc, show ((0 : Nat) : Int) = 0 from rfl, if_neg (by omega), w64 _ (by omega) (by omega)]
    simp
  · rw [if_neg hc, if_neg hc, hn]
    have hne : a % b ≠ 0 := fun h => hc (.inr (Int.dvd_of_emod_eq_zero h))
    rw [if_pos (by omega), w64 (a / b + 1) (by omega) (by omega), w64 (a / b + 1 - 1) (by omega) (by omega), w64 (a % b - b + b) (by omega) (by omega)]
    congr 2 <;> omega
theorem week_f (k : Nat) (hk : 20 ≤ k) (y m d h mi s z : Int) : moment_Weekday.f k y m d h mi s z = some (weekP7 y m d h mi s z) := by
  unfold moment_Weekday.f weekP7
  rw [valid_f, days_f k hk]
  simp only [Option.bind_some]
  have hr := daysV_range y m d h mi s z
  have hv2 : daysV y m d h mi s z = if validB y m d h mi s z = true then daysP y m d else 0 := rfl
  cases hv : validB y m d h mi s z with
  | false => rfl
  | true =>
    rw [hv, if_pos rfl] at hv2
    rw [if_pos rfl, if_pos rfl, w64 _ (by omega) (by omega), floor_f _ 7 (by omega) (by omega) (by omega) (by omega), hv2]
    rfl
end Go.Proofs.YtjlchnmpebdggaaDoor.Mo
end
section
namespace Go.Proofs.YtjlchnmpebdggaaDoor.Mo
open Go.RowKit Go.Proofs.YtjlchnmpebdggaaDoorW.PrintWords
def headerT (y m d h mi s z : Int) : ByteArray := weekL.getD (weekP7 y m d h mi s z).toNat ⟨#[]⟩ ++ (⟨#[44, 32]⟩ : ByteArray) ++ plainP d ++ (⟨#[32]⟩ : ByteArray) ++ monthL.getD (m - 1).toNat ⟨#[]⟩ ++ (⟨#[32]⟩ : ByteArray) ++ fourP y ++ (⟨#[32]⟩ : ByteArray) ++ clockP h mi s z
def printHeaderP (y m d h mi s z : Int) : ByteArray × Int := if refuseP y m d h mi s z = 0 then (headerT y m d h mi s z, 0) else (⟨#[]⟩, refuseP y m d h mi s z)
set_option maxHeartbeats 8000000 in
set_option maxRecDepth 100000 in
theorem printHeader_calls (y m d h mi s z : Int) (w : World) (hL : Laid w) :
    Calls Tryd.prog 30 #[.agg #[.int .i64 y, .int .i64 m, .int .i64 d, .int .i64 h, .int .i64 mi, .int .i64 s, .int .i64 z]] w fun e w' => e = .returned (.tuple #[.string (printHeaderP y m d h mi s z).1, .int .i64 (printHeaderP y m d h mi s z).2]) ∧ Below w.heap.size w w' := by
  have HR0 := refused_f y m d h mi s z
  by_cases hr : refuseP y m d h mi s z = 0
  · obtain ⟨hd, hv⟩ := refuse_zero hr
    obtain ⟨a1, a2, a3, a4, a5, a6⟩ := (isDay_iff _ _ _).1 hd
    obtain ⟨b1, b2, b3, b4, b5, b6, b7, b8⟩ := (time_iff _ _ _ _).1 ((valid_iff _ _ _ _ _ _ _).1 hv).2
    have hp : printHeaderP y m d h mi s z = (headerT y m d h mi s z, 0) := if_pos hr
    rw [hp]
    rw [hr] at HR0
    have HR := Lib.hid HR0
    obtain ⟨n, rfl⟩ : ∃ n : Nat, m = n + 1 := ⟨(m - 1).toNat, by omega⟩
    have hn : n < 12 := by omega
    have hwr0 : 0 ≤ weekP7 y ((n : Int) + 1) d h mi s z ∧ weekP7 y ((n : Int) + 1) d h mi s z ≤ 6 := by unfold weekP7; split <;> omega
    obtain ⟨wk, hwk⟩ : ∃ q : Nat, weekP7 y ((n : Int) + 1) d h mi s z = (q : Int) := ⟨(weekP7 y ((n : Int) + 1) d h mi s z).toNat, by omega⟩
    have HW := Lib.hid ((week_f 30000 (by omega) y ((n : Int) + 1) d h mi s z).trans (congrArg some hwk))
    have hk7 : wk < 7 := by omega
    have hT : headerT y ((n : Int) + 1) d h mi s z = weekL.getD wk ⟨#[]⟩ ++ (⟨#[44, 32]⟩ : ByteArray) ++ plainP d ++ (⟨#[32]⟩ : ByteArray) ++ monthL.getD n ⟨#[]⟩ ++ (⟨#[32]⟩ : ByteArray) ++ fourP y ++ (⟨#[32]⟩ : ByteArray) ++ clockP h mi s z := by
      unfold headerT
      rw [hwk]
      congr 6
      simp
    rw [hT]
    have hn0 : (0 : Int) ≤ (n : Int) := by omega
    have hn1 : (n : Int) < 12 := by omega
    have hk0 : (0 : Int) ≤ (wk : Int) := by omega
    have hk1 : (wk : Int) < 7 := by omega
    have hwr : IntKind.i64.wrap (n : Int) = (n : Int) := IntWalk.i64_in _ (by omega)
    have hms := month_size n hn
    have hws := week_size wk hk7
    have hfs := fourP_size y
    have hix := fun w => month_index w n hn
    have hiw := fun w => week_index w wk hk7
    have HF := Lib.hid (four_f y)
    have hck := clockP_size h mi s z
    have HCK : Hid (moment_clock.f y ((n : Int) + 1) d h mi s z = some (clockP h mi s z)) := Lib.hid (if_pos ⟨b7, b8⟩)
    have HPL := Lib.hid (plain_f d)
    have hps := plainP_size d
    generalize monthL.getD n ⟨#[]⟩ = mn at *
    generalize weekL.getD wk ⟨#[]⟩ = wn at *
    generalize fourP y = fy at *
    generalize clockP h mi s z = ck at *
    generalize plainP d = pd at *
    have HL := Lib.hid (laid_below hL (below_alloc (Below.refl _ w) (.cells #[.int .i64 y, .int .i64 ((n : Int) + 1), .int .i64 d, .int .i64 h, .int .i64 mi, .int .i64 s, .int .i64 z] 23)))
    have HL0 := Lib.hid hL
    clear hL hT hwk hwr0 hp hr HR0 hd hv a1 a2 a3 a4 a5 a6 b1 b2 b3 b4 b5 b6 b7 b8
    rcases hps with h1 | h1
    · skip
      go_enter Tryd.func30, Tryd.ntmps30
      go_wp2_with fail
      refine (moment_refused.calls _ _ _ _ _ _ _ 0 _ HR.out HL.out).mono ?_
      rintro e1 w1 ⟨rfl, hb1⟩
      have HB := Lib.hid (below_step (below_alloc (Below.refl _ w) _) hb1)
      have hbx := (hb1.block w.heap.size (by simp)).trans (heap_alloc_new w _)
      obtain ⟨⟨c0, c1, c2, c3, c4, c5, c6⟩, _⟩ := cells7 hbx
      clear hb1 hbx HL
      have HL := HL0
      go_upto_region 4 with fail
      go_region_held3 (fun w' => w'.cell? ⟨w.heap.size, 0, none⟩ = some (.int .i64 y) ∧ w'.cell? ⟨w.heap.size, 1, none⟩ = some (.int .i64 ((n : Int) + 1)) ∧ w'.cell? ⟨w.heap.size, 2, none⟩ = some (.int .i64 d) ∧ w'.cell? ⟨w.heap.size, 3, none⟩ = some (.int .i64 h) ∧ w'.cell? ⟨w.heap.size, 4, none⟩ = some (.int .i64 mi) ∧ w'.cell? ⟨w.heap.size, 5, none⟩ = some (.int .i64 s) ∧ w'.cell? ⟨w.heap.size, 6, none⟩ = some (.int .i64 z)) (go_keep) ((first | (go_at_call 65; (with_reducible refine (weekdays_calls _).mono ?_); rintro e1 u1 ⟨rfl, hb⟩; have n0_ := Lib.hid (below_step (by repeat (first | (with_reducible exact HB.out) | (with_reducible apply below_drew) | (with_reducible apply pw_below_drewN) | exact HB.out)) hb); clear HB; have HB := n0_; clear n0_; have k0 := pw_cell_below hb (a := ⟨w.heap.size, 0, none⟩) (v := .int .i64 y) (by first | assumption | go_simp); have k1 := pw_cell_below hb (a := ⟨w.heap.size, 1, none⟩) (v := .int .i64 ((n : Int) + 1)) (by first | assumption | go_simp); have k2 := pw_cell_below hb (a := ⟨w.heap.size, 2, none⟩) (v := .int .i64 d) (by first | assumption | go_simp); have k3 := pw_cell_below hb (a := ⟨w.heap.size, 3, none⟩) (v := .int .i64 h) (by first | assumption | go_simp); have k4 := pw_cell_below hb (a := ⟨w.heap.size, 4, none⟩) (v := .int .i64 mi) (by first | assumption | go_simp); have k5 := pw_cell_below hb (a := ⟨w.heap.size, 5, none⟩) (v := .int .i64 s) (by first | assumption | go_simp); have k6 := pw_cell_below hb (a := ⟨w.heap.size, 6, none⟩) (v := .int .i64 z) (by first | assumption | go_simp); clear hb) | (go_at_call 21; (with_reducible refine (moment_Weekday.calls 30000 y ((n : Int) + 1) d h mi s z (wk : Int) _ HW.out (laid_below HL.out (by repeat (first | (with_reducible exact HB.out) | (with_reducible apply below_drew) | (with_reducible apply pw_below_drewN) | exact HB.out)))).mono ?_); rintro e1 u2 ⟨rfl, hb⟩; have n0_ := Lib.hid (below_step (by repeat (first | (with_reducible exact HB.out) | (with_reducible apply below_drew) | (with_reducible apply pw_below_drewN) | exact HB.out)) hb); clear HB; have HB := n0_; clear n0_; have k0 := pw_cell_below hb (a := ⟨w.heap.size, 0, none⟩) (v := .int .i64 y) (by first | assumption | go_simp); have k1 := pw_cell_below hb (a := ⟨w.heap.size, 1, none⟩) (v := .int .i64 ((n : Int) + 1)) (by first | assumption | go_simp); have k2 := pw_cell_below hb (a := ⟨w.heap.size, 2, none⟩) (v := .int .i64 d) (by first | assumption | go_simp); have k3 := pw_cell_below hb (a := ⟨w.heap.size, 3, none⟩) (v := .int .i64 h) (by first | assumption | go_simp); have k4 := pw_cell_below hb (a := ⟨w.heap.size, 4, none⟩) (v := .int .i64 mi) (by first | assumption | go_simp); have k5 := pw_cell_below hb (a := ⟨w.heap.size, 5, none⟩) (v := .int .i64 s) (by first | assumption | go_simp); have k6 := pw_cell_below hb (a := ⟨w.heap.size, 6, none⟩) (v := .int .i64 z) (by first | assumption | go_simp); clear hb) | (go_at_call 49; (with_reducible refine (moment_plain.calls d pd _ HPL.out).mono ?_); rintro e1 u3 ⟨rfl, hb⟩; have n0_ := Lib.hid (below_step (by repeat (first | (with_reducible exact HB.out) | (with_reducible apply below_drew) | (with_reducible apply pw_below_drewN) | exact HB.out)) hb); clear HB; have HB := n0_; clear n0_; have k0 := pw_cell_below hb (a := ⟨w.heap.size, 0, none⟩) (v := .int .i64 y) (by first | assumption | go_simp); have k1 := pw_cell_below hb (a := ⟨w.heap.size, 1, none⟩) (v := .int .i64 ((n : Int) + 1)) (by first | assumption | go_simp); have k2 := pw_cell_below hb (a := ⟨w.heap.size, 2, none⟩) (v := .int .i64 d) (by first | assumption | go_simp); have k3 := pw_cell_below hb (a := ⟨w.heap.size, 3, none⟩) (v := .int .i64 h) (by first | assumption | go_simp); have k4 := pw_cell_below hb (a := ⟨w.heap.size, 4, none⟩) (v := .int .i64 mi) (by first | assumption | go_simp); have k5 := pw_cell_below hb (a := ⟨w.heap.size, 5, none⟩) (v := .int .i64 s) (by first | assumption | go_simp); have k6 := pw_cell_below hb (a := ⟨w.heap.size, 6, none⟩) (v := .int .i64 z) (by first | assumption | go_simp); clear hb) | (go_at_call 66; (with_reducible refine (months_calls _).mono ?_); rintro e1 u4 ⟨rfl, hb⟩; have n0_ := Lib.hid (below_step (by repeat (first | (with_reducible exact HB.out) | (with_reducible apply below_drew) | (with_reducible apply pw_below_drewN) | exact HB.out)) hb); clear HB; have HB := n0_; clear n0_; have k0 := pw_cell_below hb (a := ⟨w.heap.size, 0, none⟩) (v := .int .i64 y) (by first | assumption | go_simp); have k1 := pw_cell_below hb (a := ⟨w.heap.size, 1, none⟩) (v := .int .i64 ((n : Int) + 1)) (by first | assumption | go_simp); have k2 := pw_cell_below hb (a := ⟨w.heap.size, 2, none⟩) (v := .int .i64 d) (by first | assumption | go_simp); have k3 := pw_cell_below hb (a := ⟨w.heap.size, 3, none⟩) (v := .int .i64 h) (by first | assumption | go_simp); have k4 := pw_cell_below hb (a := ⟨w.heap.size, 4, none⟩) (v := .int .i64 mi) (by first | assumption | go_simp); have k5 := pw_cell_below hb (a := ⟨w.heap.size, 5, none⟩) (v := .int .i64 s) (by first | assumption | go_simp); have k6 := pw_cell_below hb (a := ⟨w.heap.size, 6, none⟩) (v := .int .i64 z) (by first | assumption | go_simp); clear hb) | (go_at_call 67; (with_reducible refine (moment_four.calls y fy _ HF.out).mono ?_); rintro e1 u5 ⟨rfl, hb⟩; have n0_ := Lib.hid (below_step (by repeat (first | (with_reducible exact HB.out) | (with_reducible apply below_drew) | (with_reducible apply pw_below_drewN) | exact HB.out)) hb); clear HB; have HB := n0_; clear n0_; have k0 := pw_cell_below hb (a := ⟨w.heap.size, 0, none⟩) (v := .int .i64 y) (by first | assumption | go_simp); have k1 := pw_cell_below hb (a := ⟨w.heap.size, 1, none⟩) (v := .int .i64 ((n : Int) + 1)) (by first | assumption | go_simp); have k2 := pw_cell_below hb (a := ⟨w.heap.size, 2, none⟩) (v := .int .i64 d) (by first | assumption | go_simp); have k3 := pw_cell_below hb (a := ⟨w.heap.size, 3, none⟩) (v := .int .i64 h) (by first | assumption | go_simp); have k4 := pw_cell_below hb (a := ⟨w.heap.size, 4, none⟩) (v := .int .i64 mi) (by first | assumption | go_simp); have k5 := pw_cell_below hb (a := ⟨w.heap.size, 5, none⟩) (v := .int .i64 s) (by first | assumption | go_simp); have k6 := pw_cell_below hb (a := ⟨w.heap.size, 6, none⟩) (v := .int .i64 z) (by first | assumption | go_simp); clear hb) | (go_at_call 64; (with_reducible refine (moment_clock.calls y ((n : Int) + 1) d h mi s z ck _ HCK.out).mono ?_); rintro e1 u6 ⟨rfl, hb⟩; have n0_ := Lib.hid (below_step (by repeat (first | (with_reducible exact HB.out) | (with_reducible apply below_drew) | (with_reducible apply pw_below_drewN) | exact HB.out)) hb); clear HB; have HB := n0_; clear n0_; have k0 := pw_cell_below hb (a := ⟨w.heap.size, 0, none⟩) (v := .int .i64 y) (by first | assumption | go_simp); have k1 := pw_cell_below hb (a := ⟨w.heap.size, 1, none⟩) (v := .int .i64 ((n : Int) + 1)) (by first | assumption | go_simp); have k2 := pw_cell_below hb (a := ⟨w.heap.size, 2, none⟩) (v := .int .i64 d) (by first | assumption | go_simp); have k3 := pw_cell_below hb (a := ⟨w.heap.size, 3, none⟩) (v := .int .i64 h) (by first | assumption | go_simp); have k4 := pw_cell_below hb (a := ⟨w.heap.size, 4, none⟩) (v := .int .i64 mi) (by first | assumption | go_simp); have k5 := pw_cell_below hb (a := ⟨w.heap.size, 5, none⟩) (v := .int .i64 s) (by first | assumption | go_simp); have k6 := pw_cell_below hb (a := ⟨w.heap.size, 6, none⟩) (v := .int .i64 z) (by first | assumption | go_simp); clear hb)))
      all_goals go_wp2
      all_goals go_ret2
      all_goals exact ⟨rfl, (by repeat (first | (with_reducible exact HB.out) | (with_reducible apply below_drew) | (with_reducible apply pw_below_drewN) | exact HB.out))⟩
    · skip
      go_enter Tryd.func30, Tryd.ntmps30
      go_wp2_with fail
      refine (moment_refused.calls _ _ _ _ _ _ _ 0 _ HR.out HL.out).mono ?_
      rintro e1 w1 ⟨rfl, hb1⟩
      have HB := Lib.hid (below_step (below_alloc (Below.refl _ w) _) hb1)
      have hbx := (hb1.block w.heap.size (by simp)).trans (heap_alloc_new w _)
      obtain ⟨⟨c0, c1, c2, c3, c4, c5, c6⟩, _⟩ := cells7 hbx
      clear hb1 hbx HL
      have HL := HL0
      go_upto_region 4 with fail
      go_region_held3 (fun w' => w'.cell? ⟨w.heap.size, 0, none⟩ = some (.int .i64 y) ∧ w'.cell? ⟨w.heap.size, 1, none⟩ = some (.int .i64 ((n : Int) + 1)) ∧ w'.cell? ⟨w.heap.size, 2, none⟩ = some (.int .i64 d) ∧ w'.cell? ⟨w.heap.size, 3, none⟩ = some (.int .i64 h) ∧ w'.cell? ⟨w.heap.size, 4, none⟩ = some (.int .i64 mi) ∧ w'.cell? ⟨w.heap.size, 5, none⟩ = some (.int .i64 s) ∧ w'.cell? ⟨w.heap.size, 6, none⟩ = some (.int .i64 z)) (go_keep) ((first | (go_at_call 65; (with_reducible refine (weekdays_calls _).mono ?_); rintro e1 u1 ⟨rfl, hb⟩; have n0_ := Lib.hid (below_step (by repeat (first | (with_reducible exact HB.out) | (with_reducible apply below_drew) | (with_reducible apply pw_below_drewN) | exact HB.out)) hb); clear HB; have HB := n0_; clear n0_; have k0 := pw_cell_below hb (a := ⟨w.heap.size, 0, none⟩) (v := .int .i64 y) (by first | assumption | go_simp); have k1 := pw_cell_below hb (a := ⟨w.heap.size, 1, none⟩) (v := .int .i64 ((n : Int) + 1)) (by first | assumption | go_simp); have k2 := pw_cell_below hb (a := ⟨w.heap.size, 2, none⟩) (v := .int .i64 d) (by first | assumption | go_simp); have k3 := pw_cell_below hb (a := ⟨w.heap.size, 3, none⟩) (v := .int .i64 h) (by first | assumption | go_simp); have k4 := pw_cell_below hb (a := ⟨w.heap.size, 4, none⟩) (v := .int .i64 mi) (by first | assumption | go_simp); have k5 := pw_cell_below hb (a := ⟨w.heap.size, 5, none⟩) (v := .int .i64 s) (by first | assumption | go_simp); have k6 := pw_cell_below hb (a := ⟨w.heap.size, 6, none⟩) (v := .int .i64 z) (by first | assumption | go_simp); clear hb) | (go_at_call 21; (with_reducible refine (moment_Weekday.calls 30000 y ((n : Int) + 1) d h mi s z (wk : Int) _ HW.out (laid_below HL.out (by repeat (first | (with_reducible exact HB.out) | (with_reducible apply below_drew) | (with_reducible apply pw_below_drewN) | exact HB.out)))).mono ?_); rintro e1 u2 ⟨rfl, hb⟩; have n0_ := Lib.hid (below_step (by repeat (first | (with_reducible exact HB.out) | (with_reducible apply below_drew) | (with_reducible apply pw_below_drewN) | exact HB.out)) hb); clear HB; have HB := n0_; clear n0_; have k0 := pw_cell_below hb (a := ⟨w.heap.size, 0, none⟩) (v := .int .i64 y) (by first | assumption | go_simp); have k1 := pw_cell_below hb (a := ⟨w.heap.size, 1, none⟩) (v := .int .i64 ((n : Int) + 1)) (by first | assumption | go_simp); have k2 := pw_cell_below hb (a := ⟨w.heap.size, 2, none⟩) (v := .int .i64 d) (by first | assumption | go_simp); have k3 := pw_cell_below hb (a := ⟨w.heap.size, 3, none⟩) (v := .int .i64 h) (by first | assumption | go_simp); have k4 := pw_cell_below hb (a := ⟨w.heap.size, 4, none⟩) (v := .int .i64 mi) (by first | assumption | go_simp); have k5 := pw_cell_below hb (a := ⟨w.heap.size, 5, none⟩) (v := .int .i64 s) (by first | assumption | go_simp); have k6 := pw_cell_below hb (a := ⟨w.heap.size, 6, none⟩) (v := .int .i64 z) (by first | assumption | go_simp); clear hb) | (go_at_call 49; (with_reducible refine (moment_plain.calls d pd _ HPL.out).mono ?_); rintro e1 u3 ⟨rfl, hb⟩; have n0_ := Lib.hid (below_step (by repeat (first | (with_reducible exact HB.out) | (with_reducible apply below_drew) | (with_reducible apply pw_below_drewN) | exact HB.out)) hb); clear HB; have HB := n0_; clear n0_; have k0 := pw_cell_below hb (a := ⟨w.heap.size, 0, none⟩) (v := .int .i64 y) (by first | assumption | go_simp); have k1 := pw_cell_below hb (a := ⟨w.heap.size, 1, none⟩) (v := .int .i64 ((n : Int) + 1)) (by first | assumption | go_simp); have k2 := pw_cell_below hb (a := ⟨w.heap.size, 2, none⟩) (v := .int .i64 d) (by first | assumption | go_simp); have k3 := pw_cell_below hb (a := ⟨w.heap.size, 3, none⟩) (v := .int .i64 h) (by first | assumption | go_simp); have k4 := pw_cell_below hb (a := ⟨w.heap.size, 4, none⟩) (v := .int .i64 mi) (by first | assumption | go_simp); have k5 := pw_cell_below hb (a := ⟨w.heap.size, 5, none⟩) (v := .int .i64 s) (by first | assumption | go_simp); have k6 := pw_cell_below hb (a := ⟨w.heap.size, 6, none⟩) (v := .int .i64 z) (by first | assumption | go_simp); clear hb) | (go_at_call 66; (with_reducible refine (months_calls _).mono ?_); rintro e1 u4 ⟨rfl, hb⟩; have n0_ := Lib.hid (below_step (by repeat (first | (with_reducible exact HB.out) | (with_reducible apply below_drew) | (with_reducible apply pw_below_drewN) | exact HB.out)) hb); clear HB; have HB := n0_; clear n0_; have k0 := pw_cell_below hb (a := ⟨w.heap.size, 0, none⟩) (v := .int .i64 y) (by first | assumption | go_simp); have k1 := pw_cell_below hb (a := ⟨w.heap.size, 1, none⟩) (v := .int .i64 ((n : Int) + 1)) (by first | assumption | go_simp); have k2 := pw_cell_below hb (a := ⟨w.heap.size, 2, none⟩) (v := .int .i64 d) (by first | assumption | go_simp); have k3 := pw_cell_below hb (a := ⟨w.heap.size, 3, none⟩) (v := .int .i64 h) (by first | assumption | go_simp); have k4 := pw_cell_below hb (a := ⟨w.heap.size, 4, none⟩) (v := .int .i64 mi) (by first | assumption | go_simp); have k5 := pw_cell_below hb (a := ⟨w.heap.size, 5, none⟩) (v := .int .i64 s) (by first | assumption | go_simp); have k6 := pw_cell_below hb (a := ⟨w.heap.size, 6, none⟩) (v := .int .i64 z) (by first | assumption | go_simp); clear hb) | (go_at_call 67; (with_reducible refine (moment_four.calls y fy _ HF.out).mono ?_); rintro e1 u5 ⟨rfl, hb⟩; have n0_ := Lib.hid (below_step (by repeat (first | (with_reducible exact HB.out) | (with_reducible apply below_drew) | (with_reducible apply pw_below_drewN) | exact HB.out)) hb); clear HB; have HB := n0_; clear n0_; have k0 := pw_cell_below hb (a := ⟨w.heap.size, 0, none⟩) (v := .int .i64 y) (by first | assumption | go_simp); have k1 := pw_cell_below hb (a := ⟨w.heap.size, 1, none⟩) (v := .int .i64 ((n : Int) + 1)) (by first | assumption | go_simp); have k2 := pw_cell_below hb (a := ⟨w.heap.size, 2, none⟩) (v := .int .i64 d) (by first | assumption | go_simp); have k3 := pw_cell_below hb (a := ⟨w.heap.size, 3, none⟩) (v := .int .i64 h) (by first | assumption | go_simp); have k4 := pw_cell_below hb (a := ⟨w.heap.size, 4, none⟩) (v := .int .i64 mi) (by first | assumption | go_simp); have k5 := pw_cell_below hb (a := ⟨w.heap.size, 5, none⟩) (v := .int .i64 s) (by first | assumption | go_simp); have k6 := pw_cell_below hb (a := ⟨w.heap.size, 6, none⟩) (v := .int .i64 z) (by first | assumption | go_simp); clear hb) | (go_at_call 64; (with_reducible refine (moment_clock.calls y ((n : Int) + 1) d h mi s z ck _ HCK.out).mono ?_); rintro e1 u6 ⟨rfl, hb⟩; have n0_ := Lib.hid (below_step (by repeat (first | (with_reducible exact HB.out) | (with_reducible apply below_drew) | (with_reducible apply pw_below_drewN) | exact HB.out)) hb); clear HB; have HB := n0_; clear n0_; have k0 := pw_cell_below hb (a := ⟨w.heap.size, 0, none⟩) (v := .int .i64 y) (by first | assumption | go_simp); have k1 := pw_cell_below hb (a := ⟨w.heap.size, 1, none⟩) (v := .int .i64 ((n : Int) + 1)) (by first | assumption | go_simp); have k2 := pw_cell_below hb (a := ⟨w.heap.size, 2, none⟩) (v := .int .i64 d) (by first | assumption | go_simp); have k3 := pw_cell_below hb (a := ⟨w.heap.size, 3, none⟩) (v := .int .i64 h) (by first | assumption | go_simp); have k4 := pw_cell_below hb (a := ⟨w.heap.size, 4, none⟩) (v := .int .i64 mi) (by first | assumption | go_simp); have k5 := pw_cell_below hb (a := ⟨w.heap.size, 5, none⟩) (v := .int .i64 s) (by first | assumption | go_simp); have k6 := pw_cell_below hb (a := ⟨w.heap.size, 6, none⟩) (v := .int .i64 z) (by first | assumption | go_simp); clear hb)))
      all_goals go_wp2
      all_goals go_ret2
      all_goals exact ⟨rfl, (by repeat (first | (with_reducible exact HB.out) | (with_reducible apply below_drew) | (with_reducible apply pw_below_drewN) | exact HB.out))⟩
  · have hp : printHeaderP y m d h mi s z = (⟨#[]⟩, refuseP y m d h mi s z) := if_neg hr
    rw [hp]
    have HR := Lib.hid HR0
    generalize refuseP y m d h mi s z = q at *
    have hq : (q != 0) = true := by rw [bne_iff_ne]; exact hr
    have HL := Lib.hid (laid_below hL (below_alloc (Below.refl _ w) (.cells #[.int .i64 y, .int .i64 m, .int .i64 d, .int .i64 h, .int .i64 mi, .int .i64 s, .int .i64 z] 23)))
    clear hL hp hr HR0
    go_enter Tryd.func30, Tryd.ntmps30
    go_wp2_with fail
    refine (moment_refused.calls _ _ _ _ _ _ _ q _ HR.out HL.out).mono ?_
    rintro e1 w1 ⟨rfl, hb1⟩
    have HB1 := Lib.hid (below_step (below_alloc (Below.refl _ w) _) hb1)
    clear hb1
    go_wp2
    go_ret2
    exact ⟨rfl, HB1.out⟩
def moment_PrintHeader.f (y m d h mi s z : Int) : Option (ByteArray × Int) := some (printHeaderP y m d h mi s z)
theorem moment_PrintHeader.calls (a0_0 a0_1 a0_2 a0_3 a0_4 a0_5 a0_6 : Int) (r1 : ByteArray) (r2 : Int) (w : World) (h : moment_PrintHeader.f a0_0 a0_1 a0_2 a0_3 a0_4 a0_5 a0_6 = some (r1, r2)) (hL : Laid w) :
    Calls Tryd.prog 30 #[.agg #[.int .i64 a0_0, .int .i64 a0_1, .int .i64 a0_2, .int .i64 a0_3, .int .i64 a0_4, .int .i64 a0_5, .int .i64 a0_6]] w fun e w' => e = .returned (.tuple #[.string r1, .int .i64 r2]) ∧ Below w.heap.size w w' := by
  have h := Option.some.inj h
  have h2 := printHeader_calls a0_0 a0_1 a0_2 a0_3 a0_4 a0_5 a0_6 w hL
  rw [h] at h2
  exact h2
end Go.Proofs.YtjlchnmpebdggaaDoor.Mo
end
section
-- PRINTED by a driver of print.py
namespace Go.Proofs.YtjlchnmpebdggaaDoor.Mo
open Go.RowKit Go.Proofs.YtjlchnmpebdggaaDoorW.PrintWords Go.Proofs.YtjlchnmpebdggaaDoorW.PrintLast Go.Proofs.YtjlchnmpebdggaaDoorW.PrintMore
attribute [local go_sem] max2_int min2_int max_two min_two max_three min_three max_four min_four   -- for this text's walks alone
set_option linter.unusedVariables false
set_option linter.unusedSimpArgs false
def moment_PrintDay.f (a0_0 : Int) (a0_1 : Int) (a0_2 : Int) (a0_3 : Int) (a0_4 : Int) (a0_5 : Int) (a0_6 : Int) : Option (ByteArray × Int) := (moment_isDay.f a0_0 a0_1 a0_2 a0_3 a0_4 a0_5 a0_6).bind fun t469 => (if t469 = true then ((moment_plain.f a0_2).bind fun t470 => ((moment_dashed.f a0_0 a0_1 a0_2 a0_3 a0_4 a0_5 a0_6).bind fun t471 => (if t470.size + t471.size ≤ 9223372036854775807 then (some (t470 ++ t471, 0)) else (none)))) else (some ((⟨#[]⟩ : ByteArray), 21)))
def moment_PrintDay.T3 : Bool × List (List Nat × List Nat) := (true, [([], []), ([0], [0]), ([1], [1]), ([], []), ([3, 2], [3]), ([2, 4], [2, 4]), ([5, 4, 0, 1, 2, 3, 4, 5], [5]), ([6, 0, 1, 2, 3, 4, 5, 6], [])])
def moment_PrintDay.B3 : List Nat := [0, 1, 3, 0, 15, 31, 63, 127]
theorem moment_PrintDay.tab3 : rtab .any (opsOf Tryd.f24 3) = moment_PrintDay.T3 := by kernel_rfl
theorem moment_PrintDay.bits3 : waitsOk moment_PrintDay.T3.2 moment_PrintDay.B3 = true := by kernel_rfl
set_option maxHeartbeats 8000000 in
set_option maxRecDepth 100000 in
theorem moment_PrintDay.calls (a0_0 : Int) (a0_1 : Int) (a0_2 : Int) (a0_3 : Int) (a0_4 : Int) (a0_5 : Int) (a0_6 : Int) (r1 : ByteArray) (r2 : Int) (w : World) (h : moment_PrintDay.f a0_0 a0_1 a0_2 a0_3 a0_4 a0_5 a0_6 = some (r1, r2)) (hL_ : Laid w) :
  Calls Tryd.prog 24 #[.agg #[.int .i64 a0_0, .int .i64 a0_1, .int .i64 a0_2, .int .i64 a0_3, .int .i64 a0_4, .int .i64 a0_5, .int .i64 a0_6]] w fun e w' => e = .returned (.tuple #[.string r1, .int .i64 r2]) ∧ Below w.heap.size w w' := by
 have HL_ := Aside0.mk hL_
 clear hL_
 have hu23 := Tryd.underlying23
 have HB := Aside0.mk (Below.refl w.heap.size w)
 have H : ((moment_isDay.f a0_0 a0_1 a0_2 a0_3 a0_4 a0_5 a0_6).bind fun t469 => (if t469 = true then ((moment_plain.f a0_2).bind fun t470 => ((moment_dashed.f a0_0 a0_1 a0_2 a0_3 a0_4 a0_5 a0_6).bind fun t471 => (if t470.size + t471.size ≤ 9223372036854775807 then (some (t470 ++ t471, 0)) else (none)))) else (some ((⟨#[]⟩ : ByteArray), 21)))) = some (r1, r2) := h
 clear h
 replace H := Option.bind_eq_some_iff.mp H
 obtain ⟨t469, A20, H⟩ := H
 replace H : (if t469 = true then ((moment_plain.f a0_2).bind fun t470 => ((moment_dashed.f a0_0 a0_1 a0_2 a0_3 a0_4 a0_5 a0_6).bind fun t471 => (if t470.size + t471.size ≤ 9223372036854775807 then (some (t470 ++ t471, 0)) else (none)))) else (some ((⟨#[]⟩ : ByteArray), 21))) = some (r1, r2) := H
 have A2 := Aside0.mk A20
 clear A20
 by_cases c3 : t469 = true
 ·subst c3
  have H1 : ((moment_plain.f a0_2).bind fun t470 => ((moment_dashed.f a0_0 a0_1 a0_2 a0_3 a0_4 a0_5 a0_6).bind fun t471 => (if t470.size + t471.size ≤ 9223372036854775807 then (some (t470 ++ t471, 0)) else (none)))) = some (r1, r2) := by rw [if_pos rfl] at H; exact H
  clear H
  have H := H1
  clear H1
  replace H := Option.bind_eq_some_iff.mp H
  obtain ⟨t470, A40, H⟩ := H
  replace H : ((moment_dashed.f a0_0 a0_1 a0_2 a0_3 a0_4 a0_5 a0_6).bind fun t471 => (if t470.size + t471.size ≤ 9223372036854775807 then (some (t470 ++ t471, 0)) else (none))) = some (r1, r2) := H
  have A4 := Aside0.mk A40
  clear A40
  replace H := Option.bind_eq_some_iff.mp H
  obtain ⟨t471, A50, H⟩ := H
  replace H : (if t470.size + t471.size ≤ 9223372036854775807 then (some (t470 ++ t471, 0)) else (none)) = some (r1, r2) := H
  have A5 := Aside0.mk A50
  clear A50
  by_cases c6 : t470.size + t471.size ≤ 9223372036854775807
  ·rw [if_pos c6] at H
   have c6b0 := eq_true c6
   have c6b1 : decide (t470.size + t471.size ≤ 9223372036854775807) = true := decide_eq_true c6
   try have c6b2 : (9223372036854775807 < t470.size + t471.size) = False := eq_false (Nat.not_lt.2 c6)
   simp only [Option.some.injEq, Prod.mk.injEq] at H
   obtain ⟨rfl, rfl⟩ := H
   go_enter Tryd.func24, Tryd.ntmps24
   try go_wp2_with (first | ((with_reducible refine gate_dst (N := 1) rfl ?_); refine box_event ?hg (N := 1) ?hd (cs := #[.int .i64 a0_0, .int .i64 a0_1, .int .i64 a0_2, .int .i64 a0_3, .int .i64 a0_4, .int .i64 a0_5, .int .i64 a0_6]) (t := 23) ?hr ?_; (case hd => rfl); (case hg => rfl); (case hr => first | (go_simp; done) | (go_simp; rfl)); intro gb468 hg w7 hbox hb; have n0_ := Aside0.mk (below_step (by repeat (first | (with_reducible first | exact HB.out | apply below_alloc | apply pw_below_drewN | apply below_drew1) | exact HB.out)) hb); have n1_ := Aside0.mk (hbox); have n2_ := Aside0.mk ((by rw [hg]; exact (below_size (by repeat (first | (with_reducible first | exact HB.out | apply below_alloc | apply pw_below_drewN | apply below_drew1) | exact HB.out))) : w.heap.size ≤ gb468)); have n3_ := Aside0.mk ((by rw [hg]; exact (below_size (by repeat (first | (with_reducible first | exact HB.out | apply below_alloc | apply pw_below_drewN | apply below_drew1) | exact HB.out))) : w.heap.size ≤ gb468)); clear HB; have HB := n0_; have BK468 := n1_; have GW468 := n2_; have GE468 := n3_; clear n0_ n1_ n2_ n3_; clear hb hbox hg; have hcz8_0 : w7.cell? ⟨gb468, 0, none⟩ = some (.int .i64 a0_0) := (blk_cell BK468.out 0).trans rfl; have hcz8_1 : w7.cell? ⟨gb468, 1, none⟩ = some (.int .i64 a0_1) := (blk_cell BK468.out 1).trans rfl; have hcz8_2 : w7.cell? ⟨gb468, 2, none⟩ = some (.int .i64 a0_2) := (blk_cell BK468.out 2).trans rfl; have hcz8_3 : w7.cell? ⟨gb468, 3, none⟩ = some (.int .i64 a0_3) := (blk_cell BK468.out 3).trans rfl; have hcz8_4 : w7.cell? ⟨gb468, 4, none⟩ = some (.int .i64 a0_4) := (blk_cell BK468.out 4).trans rfl; have hcz8_5 : w7.cell? ⟨gb468, 5, none⟩ = some (.int .i64 a0_5) := (blk_cell BK468.out 5).trans rfl; have hcz8_6 : w7.cell? ⟨gb468, 6, none⟩ = some (.int .i64 a0_6) := (blk_cell BK468.out 6).trans rfl; have hfz8_0 := blk_frozen BK468.out 0; have hfz8_1 := blk_frozen BK468.out 1; have hfz8_2 := blk_frozen BK468.out 2; have hfz8_3 := blk_frozen BK468.out 3; have hfz8_4 := blk_frozen BK468.out 4; have hfz8_5 := blk_frozen BK468.out 5; have hfz8_6 := blk_frozen BK468.out 6) | ((with_reducible refine gate_callee (f := 46) rfl ?_); refine goesL_ (some 5) rfl rfl Tryd.func46 (by kernel_rfl) rfl #[.agg #[.int .i64 a0_0, .int .i64 a0_1, .int .i64 a0_2, .int .i64 a0_3, .int .i64 a0_4, .int .i64 a0_5, .int .i64 a0_6]] rfl (by (try simp only [List.map_toArray, List.map_cons, List.map_nil]); first | done | rfl | (simp only [List.length_drop, List.length_take]; rfl)) ?_; (with_reducible refine (moment_isDay.calls a0_0 a0_1 a0_2 a0_3 a0_4 a0_5 a0_6 true _ A2.out (by first | exact laid_below HL_.out (by repeat (first | (with_reducible first | exact HB.out | apply below_alloc | apply pw_below_drewN | apply below_drew1) | exact HB.out)) | exact laid_drawn HL_.out (by repeat (first | exact Drawn0.refl _ | apply Drawn0.step)))).mono ?_); rintro e w9 ⟨rfl, hb⟩; refine ⟨_, rfl, ?_⟩; have n0_ := Aside0.mk (blk_below (g := gb468) (o := .cells #[.int .i64 a0_0, .int .i64 a0_1, .int .i64 a0_2, .int .i64 a0_3, .int .i64 a0_4, .int .i64 a0_5, .int .i64 a0_6] 23 (0, 0)) (by (with_reducible repeat (first | refine blk_drewN ?_ _ | refine blk_drew ?_ | refine blk_alloc ?_ _)); exact BK468.out) hb); have n1_ := Aside0.mk (below_step (by repeat (first | (with_reducible first | exact HB.out | apply below_alloc | apply pw_below_drewN | apply below_drew1 | refine below_set ?_ GE468.out) | exact HB.out)) hb); clear BK468; clear HB; have BK468 := n0_; have HB := n1_; clear n0_ n1_; (try clear hb); (try clear hb2); (try clear hk); (try clear hi)))
   have n0_ := Aside0.mk (blk_drew BK468.out)
   have n1_ := Aside0.mk (below_drew1 HB.out)
   clear BK468
   clear HB
   have BK468 := n0_
   have HB := n1_
   clear n0_ n1_
   refine start_ (n := 8) (S := fun w' => w'.cell? ⟨gb468, 0, none⟩ = some (.int .i64 a0_0) ∧ w'.cell? ⟨gb468, 1, none⟩ = some (.int .i64 a0_1) ∧ w'.cell? ⟨gb468, 2, none⟩ = some (.int .i64 a0_2) ∧ w'.cell? ⟨gb468, 3, none⟩ = some (.int .i64 a0_3) ∧ w'.cell? ⟨gb468, 4, none⟩ = some (.int .i64 a0_4) ∧ w'.cell? ⟨gb468, 5, none⟩ = some (.int .i64 a0_5) ∧ w'.cell? ⟨gb468, 6, none⟩ = some (.int .i64 a0_6)) (ds := []) (bs_ 0 8) (by kernel_rfl) rfl rfl ⟨(blk_cell BK468.out 0).trans rfl, (blk_cell BK468.out 1).trans rfl, (blk_cell BK468.out 2).trans rfl, (blk_cell BK468.out 3).trans rfl, (blk_cell BK468.out 4).trans rfl, (blk_cell BK468.out 5).trans rfl, (blk_cell BK468.out 6).trans rfl⟩ (fun hHeld => ?_); refine with_tabW moment_PrintDay.tab3 moment_PrintDay.bits3 (fun HT_ HW_ => ?_)
   generalize w9.drew = w10 at BK468 HB hHeld ⊢
   refine pu_ 0 (some 7) ?_ (bs_ 1 7) rfl rfl (any_of HT_.out (by kernel_rfl)) (fun _ _ _ h => h) (y_ (by rfl) ?_) ?_ ?_ ?_
   rotate_left
   ·intro w'
    go_simp
    with_reducible rfl
   rotate_left
   ·simp only [Act.put, s1_, s2_, s3_, i64_w, i32_w]
    rfl
   refine take_ (i := 1) (N := some 8) (v := ?_) (a' := ?_) (bs_ 2 6) rfl rfl (take_ofW HT_.out HW_.out (by kernel_rfl)) (fun _ _ _ h => h) (Or.inl ⟨by rfl, ?_⟩) hHeld ?_ ?_
   rotate_left
   ·rintro w' ⟨s0, s1, s2, s3, s4, s5, s6⟩
    go_simp
    with_reducible rfl
   rotate_left
   ·simp only [Act.put, s1_, s2_, s3_, i64_w, i32_w]
    rfl
   refine take_ (i := 3) (N := some 10) (v := ?_) (a' := ?_) #[true, true, false, true, false, false, false, false] rfl rfl (take_ofW HT_.out HW_.out (by kernel_rfl)) (fun _ _ _ h => h) (Or.inl ⟨by rfl, ?_⟩) hHeld ?_ ?_
   rotate_left
   ·rintro w' ⟨s0, s1, s2, s3, s4, s5, s6⟩
    go_simp
    with_reducible rfl
   rotate_left
   ·simp only [Act.put, s1_, s2_, s3_, i64_w, i32_w]
    rfl
   refine one_ (i := 2) (N := some 9) (bs_ 4 4) rfl rfl (one_of HT_.out (by kernel_rfl)) (by decide) (fun K hK => ?_)
   refine goes_ Tryd.func49 (by kernel_rfl) rfl #[.int .i64 a0_2] (by rfl) rfl rfl (by (try simp only [List.map_toArray, List.map_cons, List.map_nil]); first | done | rfl | (simp only [List.length_drop, List.length_take]; rfl)) ?_
   with_reducible refine (moment_plain.calls a0_2 t470 _ A4.out).mono ?_
   rintro e w11 ⟨rfl, hb⟩
   refine ⟨_, rfl, ?_⟩
   have n0_ := Aside0.mk (blk_below (g := gb468) (o := .cells #[.int .i64 a0_0, .int .i64 a0_1, .int .i64 a0_2, .int .i64 a0_3, .int .i64 a0_4, .int .i64 a0_5, .int .i64 a0_6] 23 (0, 0)) (by (with_reducible repeat (first | refine blk_drewN ?_ _ | refine blk_drew ?_ | refine blk_alloc ?_ _)); exact BK468.out) hb)
   have n1_ := Aside0.mk (below_step (by repeat (first | (with_reducible first | exact HB.out | apply below_alloc | apply pw_below_drewN | apply below_drew1 | refine below_set ?_ GE468.out) | exact HB.out)) hb)
   clear BK468
   clear HB
   have BK468 := n0_
   have HB := n1_
   clear n0_ n1_
   (try clear hb)
   (try clear hb2)
   (try clear hk)
   (try clear hi)
   refine hK.out _ _ ⟨(blk_cell BK468.out 0).trans rfl, (blk_cell BK468.out 1).trans rfl, (blk_cell BK468.out 2).trans rfl, (blk_cell BK468.out 3).trans rfl, (blk_cell BK468.out 4).trans rfl, (blk_cell BK468.out 5).trans rfl, (blk_cell BK468.out 6).trans rfl⟩ (fun hHeld => ?_)
   clear hK K
   refine norm_ (a' := ?_) ?_ ?_
   rotate_left
   ·show Act.put _ (some 9) _ = _
    simp only [Act.put, s1_, s2_, s3_, i64_w, i32_w]
    rfl
   refine one_ (i := 4) (N := some 11) (bs_ 5 3) rfl rfl (one_of HT_.out (by kernel_rfl)) (by decide) (fun K hK => ?_)
   refine goes_ Tryd.func50 (by kernel_rfl) rfl #[.agg #[.int .i64 a0_0, .int .i64 a0_1, .int .i64 a0_2, .int .i64 a0_3, .int .i64 a0_4, .int .i64 a0_5, .int .i64 a0_6]] (by rfl) rfl rfl (by (try simp only [List.map_toArray, List.map_cons, List.map_nil]); first | done | rfl | (simp only [List.length_drop, List.length_take]; rfl)) ?_
   with_reducible refine (moment_dashed.calls a0_0 a0_1 a0_2 a0_3 a0_4 a0_5 a0_6 t471 _ A5.out).mono ?_
   rintro e w12 ⟨rfl, hb⟩
   refine ⟨_, rfl, ?_⟩
   have n0_ := Aside0.mk (blk_below (g := gb468) (o := .cells #[.int .i64 a0_0, .int .i64 a0_1, .int .i64 a0_2, .int .i64 a0_3, .int .i64 a0_4, .int .i64 a0_5, .int .i64 a0_6] 23 (0, 0)) (by (with_reducible repeat (first | refine blk_drewN ?_ _ | refine blk_drew ?_ | refine blk_alloc ?_ _)); exact BK468.out) hb)
   have n1_ := Aside0.mk (below_step (by repeat (first | (with_reducible first | exact HB.out | apply below_alloc | apply pw_below_drewN | apply below_drew1 | refine below_set ?_ GE468.out) | exact HB.out)) hb)
   clear BK468
   clear HB
   have BK468 := n0_
   have HB := n1_
   clear n0_ n1_
   (try clear hb)
   (try clear hb2)
   (try clear hk)
   (try clear hi)
   refine hK.out _ _ ⟨(blk_cell BK468.out 0).trans rfl, (blk_cell BK468.out 1).trans rfl, (blk_cell BK468.out 2).trans rfl, (blk_cell BK468.out 3).trans rfl, (blk_cell BK468.out 4).trans rfl, (blk_cell BK468.out 5).trans rfl, (blk_cell BK468.out 6).trans rfl⟩ (fun hHeld => ?_)
   clear hK K
   refine norm_ (a' := ?_) ?_ ?_
   rotate_left
   ·show Act.put _ (some 11) _ = _
    simp only [Act.put, s1_, s2_, s3_, i64_w, i32_w]
    rfl
   refine pu_ 5 (some 12) ?_ (bs_ 6 2) rfl rfl (any_of HT_.out (by kernel_rfl)) (fun _ _ _ h => h) (y_ (by rfl) ?_) ?_ ?_ ?_
   rotate_left
   ·intro w'
    go_simp
    with_reducible rfl
   rotate_left
   ·simp only [Act.put, s1_, s2_, s3_, i64_w, i32_w]
    rfl
   refine pu_ 6 (some 2) ?_ (bs_ 7 1) rfl rfl (any_of HT_.out (by kernel_rfl)) (fun _ _ _ h => h) (y_ (by rfl) ?_) ?_ ?_ ?_
   rotate_left
   ·intro w'
    go_simp
    with_reducible rfl
   rotate_left
   ·simp only [Act.put, s1_, s2_, s3_, i64_w, i32_w]
    rfl
   refine pu_ 7 (some 3) ?_ (bs_ 8 0) rfl rfl (any_of HT_.out (by kernel_rfl)) (fun _ _ _ h => h) (y_ (by rfl) ?_) ?_ ?_ ?_
   rotate_left
   ·intro w'
    go_simp
    with_reducible rfl
   rotate_left
   ·simp only [Act.put, s1_, s2_, s3_, i64_w, i32_w]
    rfl
   refine done_ (done_of HT_.out (by kernel_rfl)) ?_
   try go_wp2
   go_ret2
   exact ⟨by first | rfl | (simp [errW_none, errW_some] <;> rfl) | (simp [*, errW_none, errW_some] <;> rfl), by repeat (first | (with_reducible first | exact HB.out | apply below_alloc | apply pw_below_drewN | apply below_drew1 | refine below_set ?_ GE468.out) | exact HB.out)⟩
  ·rw [if_neg c6] at H
   exact absurd H (by simp)
 ·replace c3 := Bool.eq_false_iff.mpr c3
  subst c3
  have H1 : (some ((⟨#[]⟩ : ByteArray), 21)) = some (r1, r2) := by rw [if_neg (show ¬ (false = true) by decide)] at H; exact H
  clear H
  have H := H1
  clear H1
  simp only [Option.some.injEq, Prod.mk.injEq] at H
  obtain ⟨rfl, rfl⟩ := H
  go_enter Tryd.func24, Tryd.ntmps24
  go_wp2_with (first | ((with_reducible refine gate_dst (N := 1) rfl ?_); refine box_event ?hg (N := 1) ?hd (cs := #[.int .i64 a0_0, .int .i64 a0_1, .int .i64 a0_2, .int .i64 a0_3, .int .i64 a0_4, .int .i64 a0_5, .int .i64 a0_6]) (t := 23) ?hr ?_; (case hd => rfl); (case hg => rfl); (case hr => first | (go_simp; done) | (go_simp; rfl)); intro gb468 hg w13 hbox hb; have n0_ := Aside0.mk (below_step (by repeat (first | (with_reducible first | exact HB.out | apply below_alloc | apply pw_below_drewN | apply below_drew1) | exact HB.out)) hb); have n1_ := Aside0.mk (hbox); have n2_ := Aside0.mk ((by rw [hg]; exact (below_size (by repeat (first | (with_reducible first | exact HB.out | apply below_alloc | apply pw_below_drewN | apply below_drew1) | exact HB.out))) : w.heap.size ≤ gb468)); have n3_ := Aside0.mk ((by rw [hg]; exact (below_size (by repeat (first | (with_reducible first | exact HB.out | apply below_alloc | apply pw_below_drewN | apply below_drew1) | exact HB.out))) : w.heap.size ≤ gb468)); clear HB; have HB := n0_; have BK468 := n1_; have GW468 := n2_; have GE468 := n3_; clear n0_ n1_ n2_ n3_; clear hb hbox hg; have hcz14_0 : w13.cell? ⟨gb468, 0, none⟩ = some (.int .i64 a0_0) := (blk_cell BK468.out 0).trans rfl; have hcz14_1 : w13.cell? ⟨gb468, 1, none⟩ = some (.int .i64 a0_1) := (blk_cell BK468.out 1).trans rfl; have hcz14_2 : w13.cell? ⟨gb468, 2, none⟩ = some (.int .i64 a0_2) := (blk_cell BK468.out 2).trans rfl; have hcz14_3 : w13.cell? ⟨gb468, 3, none⟩ = some (.int .i64 a0_3) := (blk_cell BK468.out 3).trans rfl; have hcz14_4 : w13.cell? ⟨gb468, 4, none⟩ = some (.int .i64 a0_4) := (blk_cell BK468.out 4).trans rfl; have hcz14_5 : w13.cell? ⟨gb468, 5, none⟩ = some (.int .i64 a0_5) := (blk_cell BK468.out 5).trans rfl; have hcz14_6 : w13.cell? ⟨gb468, 6, none⟩ = some (.int .i64 a0_6) := (blk_cell BK468.out 6).trans rfl; have hfz14_0 := blk_frozen BK468.out 0; have hfz14_1 := blk_frozen BK468.out 1; have hfz14_2 := blk_frozen BK468.out 2; have hfz14_3 := blk_frozen BK468.out 3; have hfz14_4 := blk_frozen BK468.out 4; have hfz14_5 := blk_frozen BK468.out 5; have hfz14_6 := blk_frozen BK468.out 6) | ((with_reducible refine gate_callee (f := 46) rfl ?_); refine goesL_ (some 5) rfl rfl Tryd.func46 (by kernel_rfl) rfl #[.agg #[.int .i64 a0_0, .int .i64 a0_1, .int .i64 a0_2, .int .i64 a0_3, .int .i64 a0_4, .int .i64 a0_5, .int .i64 a0_6]] rfl (by (try simp only [List.map_toArray, List.map_cons, List.map_nil]); first | done | rfl | (simp only [List.length_drop, List.length_take]; rfl)) ?_; (with_reducible refine (moment_isDay.calls a0_0 a0_1 a0_2 a0_3 a0_4 a0_5 a0_6 false _ A2.out (by first | exact laid_below HL_.out (by repeat (first | (with_reducible first | exact HB.out | apply below_alloc | apply pw_below_drewN | apply below_drew1) | exact HB.out)) | exact laid_drawn HL_.out (by repeat (first | exact Drawn0.refl _ | apply Drawn0.step)))).mono ?_); rintro e w15 ⟨rfl, hb⟩; refine ⟨_, rfl, ?_⟩; have n0_ := Aside0.mk (blk_below (g := gb468) (o := .cells #[.int .i64 a0_0, .int .i64 a0_1, .int .i64 a0_2, .int .i64 a0_3, .int .i64 a0_4, .int .i64 a0_5, .int .i64 a0_6] 23 (0, 0)) (by (with_reducible repeat (first | refine blk_drewN ?_ _ | refine blk_drew ?_ | refine blk_alloc ?_ _)); exact BK468.out) hb); have n1_ := Aside0.mk (below_step (by repeat (first | (with_reducible first | exact HB.out | apply below_alloc | apply pw_below_drewN | apply below_drew1 | refine below_set ?_ GE468.out) | exact HB.out)) hb); clear BK468; clear HB; have BK468 := n0_; have HB := n1_; clear n0_ n1_; (try clear hb); (try clear hb2); (try clear hk); (try clear hi)))
  go_ret2
  exact ⟨by first | rfl | (simp [errW_none, errW_some] <;> rfl) | (simp [*, errW_none, errW_some] <;> rfl), by repeat (first | (with_reducible first | exact HB.out | apply below_alloc | apply pw_below_drewN | apply below_drew1 | refine below_set ?_ GE468.out) | exact HB.out)⟩
end Go.Proofs.YtjlchnmpebdggaaDoor.Mo
end
