import Derived.Test.YtjlchnmpebdggaaDoorHdr2
import Derived.Test.YtjlchnmpebdggaaDoorHdr11
section
-- PRINTED by a driver of print.py
namespace Go.Proofs.YtjlchnmpebdggaaDoor.Mo
open Go.RowKit Go.Proofs.YtjlchnmpebdggaaDoorW.PrintWords Go.Proofs.YtjlchnmpebdggaaDoorW.PrintLast Go.Proofs.YtjlchnmpebdggaaDoorW.PrintMore
attribute [local go_sem] max2_int min2_int max_two min_two max_three min_three max_four min_four   -- for this text's walks alone
set_option linter.unusedVariables false
set_option linter.unusedSimpArgs false
theorem info95 : (Tryd.prog.info? 95).map (fun i => (i.zero, i.size, i.bytes)) = some (some (.agg #[(.int .u8 0), (.string ⟨#[]⟩)]), 2, 24) := by kernel_rfl
mutual
def postbagref2_pieces.l0 : Nat → ByteArray → List (S95) → Int → Option ((List (S95)) × Bool)
 | 0, _, _, _ => none
 | k + 1, x0, x4, x5 => if x5 < (x0.size : Int) then (if 0 ≤ x5 then ((postbagref2_isLetter.f (bt x0 x5)).bind fun t239 => (if t239 = true then ((postbagref2_run.f k x0 x5 false).bind fun t240 => (if x5 ≤ t240 then (if t240 ≤ (x0.size : Int) then (if x4.length < 5864062014805 then ((postbagref2_skip.f k x0 t240).bind fun t244 => (postbagref2_pieces.l0 k x0 (x4 ++ [(⟨97, x0.extract (x5 : Int).toNat (t240 : Int).toNat⟩ : S95)]) t244)) else (none)) else (none)) else (none))) else ((postbagref2_isDigit.f (bt x0 x5)).bind fun t245 => (if t245 = true then ((postbagref2_run.f k x0 x5 true).bind fun t246 => (if x5 ≤ t246 then (if t246 ≤ (x0.size : Int) then (if x4.length < 5864062014805 then ((postbagref2_skip.f k x0 t246).bind fun t250 => (postbagref2_pieces.l0 k x0 (x4 ++ [(⟨100, x0.extract (x5 : Int).toNat (t246 : Int).toNat⟩ : S95)]) t250)) else (none)) else (none)) else (none))) else (if (bt x0 x5) = 43 then (postbagref2_pieces.j1 k x0 x4 x5 (bt x0 x5) (wrap64 (x5 + 1)) true (bt x0 x5) (⟨#[]⟩ : ByteArray)) else (postbagref2_pieces.j1 k x0 x4 x5 (bt x0 x5) (wrap64 (x5 + 1)) ((bt x0 x5) == 45) (bt x0 x5) (⟨#[]⟩ : ByteArray))))))) else (none)) else (some (x4, true))
def postbagref2_pieces.j1 : Nat → ByteArray → List (S95) → Int → Int → Int → Bool → Int → ByteArray → Option ((List (S95)) × Bool)
 | 0, _, _, _, _, _, _, _, _ => none
 | k + 1, x0, x4, x5, x6, x8, x36, x239000, x239001 => if x36 = true then ((postbagref2_run.f k x0 (wrap64 (x5 + 1)) true).bind fun t251 => (if t251 = (wrap64 (x5 + 1)) then (some (([] : List (S95)), false)) else (if 0 ≤ x5 then (if x5 ≤ t251 then (if t251 ≤ (x0.size : Int) then (if x4.length < 5864062014805 then ((postbagref2_skip.f k x0 t251).bind fun t255 => (postbagref2_pieces.l0 k x0 (x4 ++ [(⟨115, x0.extract (x5 : Int).toNat (t251 : Int).toNat⟩ : S95)]) t255)) else (none)) else (none)) else (none)) else (none)))) else (if x6 = 44 then (if 0 ≤ x5 then (if x5 ≤ x8 then (if x8 ≤ (x0.size : Int) then (if x4.length < 5864062014805 then ((postbagref2_skip.f k x0 x8).bind fun t259 => (postbagref2_pieces.l0 k x0 (x4 ++ [(⟨x239000, x0.extract (x5 : Int).toNat (x8 : Int).toNat⟩ : S95)]) t259)) else (none)) else (none)) else (none)) else (none)) else (if x6 = 58 then (if 0 ≤ x5 then (if x5 ≤ x8 then (if x8 ≤ (x0.size : Int) then (if x4.length < 5864062014805 then ((postbagref2_skip.f k x0 x8).bind fun t263 => (postbagref2_pieces.l0 k x0 (x4 ++ [(⟨x239000, x0.extract (x5 : Int).toNat (x8 : Int).toNat⟩ : S95)]) t263)) else (none)) else (none)) else (none)) else (none)) else (some (([] : List (S95)), false))))
end
def postbagref2_pieces.f (k : Nat) (a0 : ByteArray) : Option ((List (S95)) × Bool) := (postbagref2_skip.f k a0 0).bind fun t237 => (postbagref2_pieces.l0 k a0 ([] : List (S95)) t237)
set_option maxHeartbeats 8000000 in
set_option maxRecDepth 100000 in
theorem postbagref2_pieces.calls (k : Nat) (a0 : ByteArray) (r1 : List (S95)) (r2 : Bool) (w : World) (h : postbagref2_pieces.f k a0 = some (r1, r2)) :
  Calls Tryd.prog 84 #[.string a0] w fun e w' => ∃ v0_ : Value, e = .returned (.tuple #[v0_, .bool r2]) ∧ Kd.R k95 95 w' w.heap.size (fun _ => True) v0_ r1 ∧ Below w.heap.size w w' := by
 have hu95 := Tryd.underlying95
 have HB := Aside0.mk (Below.refl w.heap.size w)
 have H : ((postbagref2_skip.f k a0 0).bind fun t237 => (postbagref2_pieces.l0 k a0 ([] : List (S95)) t237)) = some (r1, r2) := h
 clear h
 replace H := Option.bind_eq_some_iff.mp H
 obtain ⟨t237, A20, H⟩ := H
 replace H : (postbagref2_pieces.l0 k a0 ([] : List (S95)) t237) = some (r1, r2) := H
 have A2 := Aside0.mk A20
 clear A20
 have H' := Aside0.mk H
 clear H
 go_enter Tryd.func84, Tryd.ntmps84
 go_wp2_with (first | ((with_reducible refine gate_callee (f := 98) rfl ?_); refine goesL_ (some 10) rfl rfl Tryd.func98 (by kernel_rfl) rfl #[.string a0, .int .i64 0] rfl (by (try simp only [List.map_toArray, List.map_cons, List.map_nil]); first | done | rfl) ?_; (with_reducible refine (postbagref2_skip.calls k a0 0 t237 _ A2.out).mono ?_); rintro e w' ⟨rfl, ⟨nd, rfl⟩⟩; refine ⟨_, rfl, ?_⟩))
 go_loopg [4, 5] k (fun kq v4 v5 w' => ∃ (x4_1 : List (S95)) (x5_1 : Int), v5 = .int .i64 x5_1 ∧ Aside0 (postbagref2_pieces.l0 kq a0 x4_1 x5_1 = some (r1, r2)) ∧ Aside0 (kq ≤ k) ∧ Aside0 (Kd.R k95 95 w' w.heap.size (fun _ => True) v4 x4_1) ∧ Aside0 (Below w.heap.size w w'))
 case atStart => exact ⟨(([] : List (S95))), (t237), (by first | rfl | (simp; done) | (simp [*]; done)), H', ⟨Nat.le_refl _⟩, ⟨Kd.R_nil _ _ _ _ _⟩, ⟨by repeat (first | (with_reducible first | exact HB.out | apply below_alloc | apply pw_below_drewN | apply below_drew1) | exact HB.out)⟩⟩
 case round =>
  clear H'
  try clear p2
  obtain ⟨x4_1, x5_1, rfl, HA, HK1, HO_4, HB⟩ := hrel
  cases gk with
  | zero => exact absurd HA.out (by simp [postbagref2_pieces.l0])
  | succ k1 =>
   have H := HA.out
   clear HA
   simp only [postbagref2_pieces.l0] at H
   by_cases c3 : x5_1 < (a0.size : Int)
   ·rw [if_pos c3] at H
    have c3b0 : decide (x5_1 < (a0.size : Int)) = true := decide_eq_true c3
    clear c3
    by_cases c4 : 0 ≤ x5_1
    ·rw [if_pos c4] at H
     have c4b0 : decide (0 ≤ x5_1) = true := decide_eq_true c4
     clear c4
     replace H := Option.bind_eq_some_iff.mp H
     obtain ⟨t239, A60, H⟩ := H
     replace H : (if t239 = true then ((postbagref2_run.f k1 a0 x5_1 false).bind fun t240 => (if x5_1 ≤ t240 then (if t240 ≤ (a0.size : Int) then (if x4_1.length < 5864062014805 then ((postbagref2_skip.f k1 a0 t240).bind fun t244 => (postbagref2_pieces.l0 k1 a0 (x4_1 ++ [(⟨97, a0.extract (x5_1 : Int).toNat (t240 : Int).toNat⟩ : S95)]) t244)) else (none)) else (none)) else (none))) else ((postbagref2_isDigit.f (bt a0 x5_1)).bind fun t245 => (if t245 = true then ((postbagref2_run.f k1 a0 x5_1 true).bind fun t246 => (if x5_1 ≤ t246 then (if t246 ≤ (a0.size : Int) then (if x4_1.length < 5864062014805 then ((postbagref2_skip.f k1 a0 t246).bind fun t250 => (postbagref2_pieces.l0 k1 a0 (x4_1 ++ [(⟨100, a0.extract (x5_1 : Int).toNat (t246 : Int).toNat⟩ : S95)]) t250)) else (none)) else (none)) else (none))) else (if (bt a0 x5_1) = 43 then (postbagref2_pieces.j1 k1 a0 x4_1 x5_1 (bt a0 x5_1) (wrap64 (x5_1 + 1)) true (bt a0 x5_1) (⟨#[]⟩ : ByteArray)) else (postbagref2_pieces.j1 k1 a0 x4_1 x5_1 (bt a0 x5_1) (wrap64 (x5_1 + 1)) ((bt a0 x5_1) == 45) (bt a0 x5_1) (⟨#[]⟩ : ByteArray)))))) = some (r1, r2) := H
     have A6 := Aside0.mk A60
     clear A60
     by_cases c7 : t239 = true
     ·subst c7
      have H1 : ((postbagref2_run.f k1 a0 x5_1 false).bind fun t240 => (if x5_1 ≤ t240 then (if t240 ≤ (a0.size : Int) then (if x4_1.length < 5864062014805 then ((postbagref2_skip.f k1 a0 t240).bind fun t244 => (postbagref2_pieces.l0 k1 a0 (x4_1 ++ [(⟨97, a0.extract (x5_1 : Int).toNat (t240 : Int).toNat⟩ : S95)]) t244)) else (none)) else (none)) else (none))) = some (r1, r2) := by rw [if_pos rfl] at H; exact H
      clear H
      have H := H1
      clear H1
      replace H := Option.bind_eq_some_iff.mp H
      obtain ⟨t240, A80, H⟩ := H
      replace H : (if x5_1 ≤ t240 then (if t240 ≤ (a0.size : Int) then (if x4_1.length < 5864062014805 then ((postbagref2_skip.f k1 a0 t240).bind fun t244 => (postbagref2_pieces.l0 k1 a0 (x4_1 ++ [(⟨97, a0.extract (x5_1 : Int).toNat (t240 : Int).toNat⟩ : S95)]) t244)) else (none)) else (none)) else (none)) = some (r1, r2) := H
      have A8 := Aside0.mk A80
      clear A80
      have c9b0 := eq_true (of_decide_eq_true (by first | (with_reducible assumption) | assumption) : 0 ≤ x5_1)
      by_cases c10 : x5_1 ≤ t240
      ·rw [if_pos c10] at H
       have c10b0 := eq_true c10
       have c10b1 : decide (x5_1 ≤ t240) = true := decide_eq_true c10
       clear c10
       by_cases c11 : t240 ≤ (a0.size : Int)
       ·rw [if_pos c11] at H
        have c11b0 := eq_true c11
        have c11b1 : decide (t240 ≤ (a0.size : Int)) = true := decide_eq_true c11
        clear c11
        by_cases c12 : x4_1.length < 5864062014805
        ·rw [if_pos c12] at H
         have LMc12 := Aside0.mk c12
         clear c12
         obtain ⟨y241, hy241⟩ : ∃ y_ : List (S95), y_ = (x4_1 ++ [(⟨97, a0.extract (x5_1 : Int).toNat (t240 : Int).toNat⟩ : S95)]) := ⟨_, rfl⟩
         replace H : ((postbagref2_skip.f k1 a0 t240).bind fun t244 => (postbagref2_pieces.l0 k1 a0 y241 t244)) = some (r1, r2) := by first | (rw [hy241]; with_reducible exact H) | (have H2_ := (Option.bind_some _ _).symm.trans H; rw [hy241]; with_reducible exact H2_) | (have H2_ := (Option.bind_some _ _).symm.trans H; with_reducible exact H2_) | with_reducible exact H | (rw [hy241]; exact H) | exact H
         have Ny241 := Aside0.mk hy241
         clear hy241
         replace H := Option.bind_eq_some_iff.mp H
         obtain ⟨t244, A130, H⟩ := H
         replace H : (postbagref2_pieces.l0 k1 a0 y241 t244) = some (r1, r2) := H
         have A13 := Aside0.mk A130
         clear A130
         have H' := Aside0.mk H
         clear H
         have p5 : 0 ≤ (x5_1 : Int) := of_decide_eq_true (by first | (with_reducible assumption) | assumption)
         have q5 : x5_1 < (a0.size : Int) := of_decide_eq_true (by first | (with_reducible assumption) | assumption)
         have hx5 := bt_at a0 x5_1
         replace p5 := eq_true p5
         replace q5 := eq_true q5
         go_upto_region 20 with (first | ((with_reducible refine gate_dst (N := 7) rfl ?_); refine box_event ?hg (N := 7) ?hd (cs := #[.int .u8 0, .string (⟨#[]⟩ : ByteArray)]) (t := 95) ?hr ?_; (case hd => rfl); (case hg => rfl); (case hr => first | (go_simp; done) | (go_simp; rfl)); intro gb238 hg w14 hbox hb; have n0_ := Aside0.mk (Kd.R_below (Kd.R_elderB (by (with_reducible repeat (first | apply Kd.R_alloc | apply Kd.R_drewN | apply Kd.R_drew)); exact HO_4.out) gb238 (Nat.le_of_eq hg.symm)) hb); have n1_ := Aside0.mk (below_step (by repeat (first | (with_reducible first | exact HB.out | apply below_alloc | apply pw_below_drewN | apply below_drew1) | exact HB.out)) hb); have n2_ := Aside0.mk (hbox); have n3_ := Aside0.mk ((by rw [hg]; exact (below_size (by repeat (first | (with_reducible first | exact HB.out | apply below_alloc | apply pw_below_drewN | apply below_drew1) | exact HB.out))) : w.heap.size ≤ gb238)); have n4_ := Aside0.mk ((by rw [hg]; exact (below_size (by repeat (first | (with_reducible first | exact HB.out | apply below_alloc | apply pw_below_drewN | apply below_drew1) | exact HB.out))) : w.heap.size ≤ gb238)); clear HO_4; clear HB; have HO_4 := n0_; have HB := n1_; have BK238 := n2_; have GW238 := n3_; have GE238 := n4_; clear n0_ n1_ n2_ n3_ n4_; clear hb hbox hg; have hcz15_0 : w14.cell? ⟨gb238, 0, none⟩ = some (.int .u8 0) := (blk_cell BK238.out 0).trans rfl; have hcz15_1 : w14.cell? ⟨gb238, 1, none⟩ = some (.string (⟨#[]⟩ : ByteArray)) := (blk_cell BK238.out 1).trans rfl; have hfz15_0 := blk_frozen BK238.out 0; have hfz15_1 := blk_frozen BK238.out 1) | ((with_reducible refine gate_callee (f := 99) rfl ?_); refine goesL_ (some 24) rfl rfl Tryd.func99 (by kernel_rfl) rfl #[.int .u8 (bt a0 x5_1)] rfl (by (try simp only [List.map_toArray, List.map_cons, List.map_nil]); first | done | rfl) ?_; (with_reducible refine (postbagref2_isLetter.calls (bt a0 x5_1) true _ A6.out).mono ?_); rintro e w' ⟨rfl, ⟨nd, rfl⟩⟩; refine ⟨_, rfl, ?_⟩) | ((with_reducible refine gate_callee (f := 100) rfl ?_); refine goesL_ (some 28) rfl rfl Tryd.func100 (by kernel_rfl) rfl #[.string a0, .int .i64 x5_1, .bool false] rfl (by (try simp only [List.map_toArray, List.map_cons, List.map_nil]); first | done | rfl) ?_; (with_reducible refine (postbagref2_run.calls k1 a0 x5_1 false t240 _ A8.out).mono ?_); rintro e w' ⟨rfl, ⟨nd, rfl⟩⟩; refine ⟨_, rfl, ?_⟩) | ((with_reducible refine gate_builtin (b := .append) (xs := #[.tmp 64, .tmp 66]) rfl ?_); at_builtin; refine Kd.R_append k95 (w0 := w) w.heap.size rfl (.tmp 64) (.tmp 66) 82 95 (.agg #[(.int .u8 0), (.string ⟨#[]⟩)]) 24 rfl Tryd.underlying82 info95 rfl (by decide) (by omega) u4 x4_1 (⟨97, a0.extract (x5_1 : Int).toNat (t240 : Int).toNat⟩ : S95) [.int .u8 97, .string (a0.extract (x5_1 : Int).toNat (t240 : Int).toNat)] (fun k_ => k_ ≠ gb238) (fun _ => False) rfl (by first | (go_simp; done) | (go_simp; rfl)) ?aP (fun _ hk => hk.elim) ?aF ?aO ?aB ?aS ?aL ?_; (case aP => exact k95_mkM _ _ _ (⟨97, a0.extract (x5_1 : Int).toNat (t240 : Int).toNat⟩ : S95)); (case aB => exact (by repeat (first | (with_reducible first | exact HB.out | apply below_alloc | apply pw_below_drewN | apply below_drew1 | refine below_set ?_ GE238.out) | exact HB.out))); (case aF => exact (fun k_ hk => Kd.freshB (g := gb238) (o := .cells #[.int .u8 97, .string (a0.extract (x5_1 : Int).toNat (t240 : Int).toNat)] 95 (0, 0)) (by (with_reducible repeat first | refine blk_drewN ?_ _ | refine blk_alloc ?_ _); refine blk_put (cs := #[.int .u8 97, .string (⟨#[]⟩ : ByteArray)]) ?_ 1 _ rfl; (with_reducible repeat first | refine blk_drewN ?_ _ | refine blk_alloc ?_ _); refine blk_put (cs := #[.int .u8 (bt a0 x5_1), .string (⟨#[]⟩ : ByteArray)]) ?_ 0 _ rfl; (with_reducible repeat first | refine blk_drewN ?_ _ | refine blk_alloc ?_ _); refine blk_put (cs := #[.int .u8 (bt a0 x5_1), .string (⟨#[]⟩ : ByteArray)]) ?_ 1 _ rfl; (with_reducible repeat first | refine blk_drewN ?_ _ | refine blk_alloc ?_ _); refine blk_put (cs := #[.int .u8 0, .string (⟨#[]⟩ : ByteArray)]) ?_ 0 _ rfl; (with_reducible repeat first | refine blk_drewN ?_ _ | refine blk_alloc ?_ _); exact BK238.out) k_ hk)); (case aO => exact (by (with_reducible repeat (first | apply Kd.R_alloc | apply Kd.R_drewN | apply Kd.R_drew)); exact Kd.R_mono (Kd.R_far (p := ⟨gb238, 1, none⟩) (Kd.R_far (p := ⟨gb238, 0, none⟩) (Kd.R_far (p := ⟨gb238, 1, none⟩) (Kd.R_far (p := ⟨gb238, 0, none⟩) (Kd.R_mono HO_4.out (fun k_ hk => (⟨hk, hk.2⟩ : _ ∧ k_ ≠ gb238))) (fun _ hk => hk.2) (.int .u8 (bt a0 x5_1))) (fun _ hk => hk.2) (.string (⟨#[]⟩ : ByteArray))) (fun _ hk => hk.2) (.int .u8 97)) (fun _ hk => hk.2) (.string (a0.extract (x5_1 : Int).toNat (t240 : Int).toNat))) (fun _ hk => hk.1.2))); (case aS => exact (below_size (by repeat (first | (with_reducible first | exact HB.out | apply below_alloc | apply pw_below_drewN | apply below_drew1 | refine below_set ?_ GE238.out) | exact HB.out)))); (case aL => have := LMc12.out; omega); intro v242 w16 ho hb hg hat; rw [← Ny241.out] at ho; have n0_ := Aside0.mk (blk_grown (g := gb238) (o := .cells #[.int .u8 97, .string (a0.extract (x5_1 : Int).toNat (t240 : Int).toNat)] 95 (0, 0)) (by (with_reducible repeat first | refine blk_drewN ?_ _ | refine blk_alloc ?_ _); refine blk_put (cs := #[.int .u8 97, .string (⟨#[]⟩ : ByteArray)]) ?_ 1 _ rfl; (with_reducible repeat first | refine blk_drewN ?_ _ | refine blk_alloc ?_ _); refine blk_put (cs := #[.int .u8 (bt a0 x5_1), .string (⟨#[]⟩ : ByteArray)]) ?_ 0 _ rfl; (with_reducible repeat first | refine blk_drewN ?_ _ | refine blk_alloc ?_ _); refine blk_put (cs := #[.int .u8 (bt a0 x5_1), .string (⟨#[]⟩ : ByteArray)]) ?_ 1 _ rfl; (with_reducible repeat first | refine blk_drewN ?_ _ | refine blk_alloc ?_ _); refine blk_put (cs := #[.int .u8 0, .string (⟨#[]⟩ : ByteArray)]) ?_ 0 _ rfl; (with_reducible repeat first | refine blk_drewN ?_ _ | refine blk_alloc ?_ _); exact BK238.out) hg (Kd.R_away HO_4.out (fun _ hk => hk.2))); have n1_ := Aside0.mk (hb); have n2_ := Aside0.mk (ho); clear BK238; clear HB; clear HO_4; have BK238 := n0_; have HB := n1_; have HO243 := n2_; clear n0_ n1_ n2_; clear ho hb hg hat) | ((with_reducible refine gate_callee (f := 98) rfl ?_); refine goesL_ (some 70) rfl rfl Tryd.func98 (by kernel_rfl) rfl #[.string a0, .int .i64 t240] rfl (by (try simp only [List.map_toArray, List.map_cons, List.map_nil]); first | done | rfl) ?_; (with_reducible refine (postbagref2_skip.calls k1 a0 t240 t244 _ A13.out).mono ?_); rintro e w' ⟨rfl, ⟨nd, rfl⟩⟩; refine ⟨_, rfl, ?_⟩))
         generalize hq_ : World.drewN _ _ = wz
         have n0_ : Aside0 (wz.heap[gb238]? = some (.cells #[.int .u8 97, .string (⟨#[]⟩ : ByteArray)] 95 (0, 0))) := ⟨by rw [← hq_]; (with_reducible repeat first | refine blk_drewN ?_ _ | refine blk_alloc ?_ _); refine blk_put (cs := #[.int .u8 (bt a0 x5_1), .string (⟨#[]⟩ : ByteArray)]) ?_ 0 _ rfl; (with_reducible repeat first | refine blk_drewN ?_ _ | refine blk_alloc ?_ _); refine blk_put (cs := #[.int .u8 (bt a0 x5_1), .string (⟨#[]⟩ : ByteArray)]) ?_ 1 _ rfl; (with_reducible repeat first | refine blk_drewN ?_ _ | refine blk_alloc ?_ _); refine blk_put (cs := #[.int .u8 0, .string (⟨#[]⟩ : ByteArray)]) ?_ 0 _ rfl; (with_reducible repeat first | refine blk_drewN ?_ _ | refine blk_alloc ?_ _); exact BK238.out⟩
         have n1_ : Aside0 (Below w.heap.size w wz) := ⟨by rw [← hq_]; exact (by repeat (first | (with_reducible first | exact HB.out | apply below_alloc | apply pw_below_drewN | apply below_drew1 | refine below_set ?_ GE238.out) | exact HB.out))⟩
         have n2_ : Aside0 (Kd.R k95 95 wz w.heap.size (fun k_ => k_ ≠ gb238) u4 x4_1) := ⟨by rw [← hq_]; (with_reducible repeat (first | apply Kd.R_alloc | apply Kd.R_drewN | apply Kd.R_drew)); exact Kd.R_mono (Kd.R_far (p := ⟨gb238, 0, none⟩) (Kd.R_far (p := ⟨gb238, 1, none⟩) (Kd.R_far (p := ⟨gb238, 0, none⟩) (Kd.R_mono HO_4.out (fun k_ hk => (⟨hk, hk.2⟩ : _ ∧ k_ ≠ gb238))) (fun _ hk => hk.2) (.int .u8 (bt a0 x5_1))) (fun _ hk => hk.2) (.string (⟨#[]⟩ : ByteArray))) (fun _ hk => hk.2) (.int .u8 97)) (fun _ hk => hk.1.2)⟩
         clear BK238 HB HO_4 hq_
         have BK238 := n0_; have HB := n1_; have HO_4 := n2_; clear n0_ n1_ n2_
         have kz0_ : wz.cell? ⟨gb238, 0, none⟩ = some (.int .u8 97) := (blk_cell BK238.out 0).trans rfl
         have kz1_ : wz.cell? ⟨gb238, 1, none⟩ = some (.string (⟨#[]⟩ : ByteArray)) := (blk_cell BK238.out 1).trans rfl
         have fz0_ := blk_frozen BK238.out 0
         have fz1_ := blk_frozen BK238.out 1
         go_upto_region 21 with fail
         generalize hq_ : World.setCell _ _ _ = wy
         have n0_ : Aside0 (wy.heap[gb238]? = some (.cells #[.int .u8 97, .string (a0.extract (x5_1 : Int).toNat (t240 : Int).toNat)] 95 (0, 0))) := ⟨by rw [← hq_]; (with_reducible repeat first | refine blk_drewN ?_ _ | refine blk_alloc ?_ _); refine blk_put (cs := #[.int .u8 97, .string (⟨#[]⟩ : ByteArray)]) ?_ 1 _ rfl; exact BK238.out⟩
         have n1_ : Aside0 (Below w.heap.size w wy) := ⟨by rw [← hq_]; exact (by repeat (first | (with_reducible first | exact HB.out | apply below_alloc | apply pw_below_drewN | apply below_drew1 | refine below_set ?_ GE238.out) | exact HB.out))⟩
         have n2_ : Aside0 (Kd.R k95 95 wy w.heap.size (fun k_ => k_ ≠ gb238) u4 x4_1) := ⟨by rw [← hq_]; (with_reducible repeat (first | apply Kd.R_alloc | apply Kd.R_drewN | apply Kd.R_drew)); exact Kd.R_mono (Kd.R_far (p := ⟨gb238, 1, none⟩) (Kd.R_mono HO_4.out (fun k_ hk => (⟨hk, hk⟩ : _ ∧ k_ ≠ gb238))) (fun _ hk => hk.2) (.string (a0.extract (x5_1 : Int).toNat (t240 : Int).toNat))) (fun _ hk => hk.1)⟩
         clear BK238 HB HO_4 hq_
         have BK238 := n0_; have HB := n1_; have HO_4 := n2_; clear n0_ n1_ n2_
         have ky0_ : wy.cell? ⟨gb238, 0, none⟩ = some (.int .u8 97) := (blk_cell BK238.out 0).trans rfl
         have ky1_ : wy.cell? ⟨gb238, 1, none⟩ = some (.string (a0.extract (x5_1 : Int).toNat (t240 : Int).toNat)) := (blk_cell BK238.out 1).trans rfl
         go_wp2_with (first | ((with_reducible refine gate_builtin (b := .append) (xs := #[.tmp 64, .tmp 66]) rfl ?_); at_builtin; refine Kd.R_append k95 (w0 := w) w.heap.size rfl (.tmp 64) (.tmp 66) 82 95 (.agg #[(.int .u8 0), (.string ⟨#[]⟩)]) 24 rfl Tryd.underlying82 info95 rfl (by decide) (by omega) u4 x4_1 (⟨97, a0.extract (x5_1 : Int).toNat (t240 : Int).toNat⟩ : S95) [.int .u8 97, .string (a0.extract (x5_1 : Int).toNat (t240 : Int).toNat)] (fun k_ => k_ ≠ gb238) (fun _ => False) rfl (by first | (go_simp; done) | (go_simp; rfl)) ?aP (fun _ hk => hk.elim) ?aF ?aO ?aB ?aS ?aL ?_; (case aP => exact k95_mkM _ _ _ (⟨97, a0.extract (x5_1 : Int).toNat (t240 : Int).toNat⟩ : S95)); (case aB => exact (by repeat (first | (with_reducible first | exact HB.out | apply below_alloc | apply pw_below_drewN | apply below_drew1 | refine below_set ?_ GE238.out) | exact HB.out))); (case aF => exact (fun k_ hk => Kd.freshB (g := gb238) (o := .cells #[.int .u8 97, .string (a0.extract (x5_1 : Int).toNat (t240 : Int).toNat)] 95 (0, 0)) (by (with_reducible repeat first | refine blk_drewN ?_ _ | refine blk_alloc ?_ _); exact BK238.out) k_ hk)); (case aO => exact (by (with_reducible repeat (first | apply Kd.R_alloc | apply Kd.R_drewN | apply Kd.R_drew)); exact HO_4.out)); (case aS => exact (below_size (by repeat (first | (with_reducible first | exact HB.out | apply below_alloc | apply pw_below_drewN | apply below_drew1 | refine below_set ?_ GE238.out) | exact HB.out)))); (case aL => have := LMc12.out; omega); intro v242 w16 ho hb hg hat; rw [← Ny241.out] at ho; have n0_ := Aside0.mk (blk_grown (g := gb238) (o := .cells #[.int .u8 97, .string (a0.extract (x5_1 : Int).toNat (t240 : Int).toNat)] 95 (0, 0)) (by (with_reducible repeat first | refine blk_drewN ?_ _ | refine blk_alloc ?_ _); exact BK238.out) hg (Kd.R_away HO_4.out (fun _ hk => hk))); have n1_ := Aside0.mk (hb); have n2_ := Aside0.mk (ho); clear BK238; clear HB; clear HO_4; have BK238 := n0_; have HB := n1_; have HO243 := n2_; clear n0_ n1_ n2_; clear ho hb hg hat) | ((with_reducible refine gate_callee (f := 98) rfl ?_); refine goesL_ (some 70) rfl rfl Tryd.func98 (by kernel_rfl) rfl #[.string a0, .int .i64 t240] rfl (by (try simp only [List.map_toArray, List.map_cons, List.map_nil]); first | done | rfl) ?_; (with_reducible refine (postbagref2_skip.calls k1 a0 t240 t244 _ A13.out).mono ?_); rintro e w' ⟨rfl, ⟨nd, rfl⟩⟩; refine ⟨_, rfl, ?_⟩))
         go_roundg k1
         case measure => have := HK1.out; omega
         case rel => exact ⟨(y241), (t244), (by first | rfl | (simp; done) | (simp [*]; done)), H', ⟨by have := HK1.out; omega⟩, ⟨by (with_reducible repeat (first | apply Kd.R_alloc | apply Kd.R_drewN | apply Kd.R_drew)); exact Kd.R_mono HO243.out (fun _ hk => trivial)⟩, ⟨by repeat (first | (with_reducible first | exact HB.out | apply below_alloc | apply pw_below_drewN | apply below_drew1 | refine below_set ?_ GE238.out) | exact HB.out)⟩⟩
        ·rw [if_neg c12] at H
         exact absurd H (by simp)
       ·rw [if_neg c11] at H
        exact absurd H (by simp)
      ·rw [if_neg c10] at H
       exact absurd H (by simp)
     ·replace c7 := Bool.eq_false_iff.mpr c7
      subst c7
      have H1 : ((postbagref2_isDigit.f (bt a0 x5_1)).bind fun t245 => (if t245 = true then ((postbagref2_run.f k1 a0 x5_1 true).bind fun t246 => (if x5_1 ≤ t246 then (if t246 ≤ (a0.size : Int) then (if x4_1.length < 5864062014805 then ((postbagref2_skip.f k1 a0 t246).bind fun t250 => (postbagref2_pieces.l0 k1 a0 (x4_1 ++ [(⟨100, a0.extract (x5_1 : Int).toNat (t246 : Int).toNat⟩ : S95)]) t250)) else (none)) else (none)) else (none))) else (if (bt a0 x5_1) = 43 then (postbagref2_pieces.j1 k1 a0 x4_1 x5_1 (bt a0 x5_1) (wrap64 (x5_1 + 1)) true (bt a0 x5_1) (⟨#[]⟩ : ByteArray)) else (postbagref2_pieces.j1 k1 a0 x4_1 x5_1 (bt a0 x5_1) (wrap64 (x5_1 + 1)) ((bt a0 x5_1) == 45) (bt a0 x5_1) (⟨#[]⟩ : ByteArray))))) = some (r1, r2) := by rw [if_neg (show ¬ (false = true) by decide)] at H; exact H
      clear H
      have H := H1
      clear H1
      replace H := Option.bind_eq_some_iff.mp H
      obtain ⟨t245, A170, H⟩ := H
      replace H : (if t245 = true then ((postbagref2_run.f k1 a0 x5_1 true).bind fun t246 => (if x5_1 ≤ t246 then (if t246 ≤ (a0.size : Int) then (if x4_1.length < 5864062014805 then ((postbagref2_skip.f k1 a0 t246).bind fun t250 => (postbagref2_pieces.l0 k1 a0 (x4_1 ++ [(⟨100, a0.extract (x5_1 : Int).toNat (t246 : Int).toNat⟩ : S95)]) t250)) else (none)) else (none)) else (none))) else (if (bt a0 x5_1) = 43 then (postbagref2_pieces.j1 k1 a0 x4_1 x5_1 (bt a0 x5_1) (wrap64 (x5_1 + 1)) true (bt a0 x5_1) (⟨#[]⟩ : ByteArray)) else (postbagref2_pieces.j1 k1 a0 x4_1 x5_1 (bt a0 x5_1) (wrap64 (x5_1 + 1)) ((bt a0 x5_1) == 45) (bt a0 x5_1) (⟨#[]⟩ : ByteArray)))) = some (r1, r2) := H
      have A17 := Aside0.mk A170
      clear A170
      by_cases c18 : t245 = true
      ·subst c18
       have H1 : ((postbagref2_run.f k1 a0 x5_1 true).bind fun t246 => (if x5_1 ≤ t246 then (if t246 ≤ (a0.size : Int) then (if x4_1.length < 5864062014805 then ((postbagref2_skip.f k1 a0 t246).bind fun t250 => (postbagref2_pieces.l0 k1 a0 (x4_1 ++ [(⟨100, a0.extract (x5_1 : Int).toNat (t246 : Int).toNat⟩ : S95)]) t250)) else (none)) else (none)) else (none))) = some (r1, r2) := by rw [if_pos rfl] at H; exact H
       clear H
       have H := H1
       clear H1
       replace H := Option.bind_eq_some_iff.mp H
       obtain ⟨t246, A190, H⟩ := H
       replace H : (if x5_1 ≤ t246 then (if t246 ≤ (a0.size : Int) then (if x4_1.length < 5864062014805 then ((postbagref2_skip.f k1 a0 t246).bind fun t250 => (postbagref2_pieces.l0 k1 a0 (x4_1 ++ [(⟨100, a0.extract (x5_1 : Int).toNat (t246 : Int).toNat⟩ : S95)]) t250)) else (none)) else (none)) else (none)) = some (r1, r2) := H
       have A19 := Aside0.mk A190
       clear A190
       have c20b0 := eq_true (of_decide_eq_true (by first | (with_reducible assumption) | assumption) : 0 ≤ x5_1)
       by_cases c21 : x5_1 ≤ t246
       ·rw [if_pos c21] at H
        have c21b0 := eq_true c21
        have c21b1 : decide (x5_1 ≤ t246) = true := decide_eq_true c21
        clear c21
        by_cases c22 : t246 ≤ (a0.size : Int)
        ·rw [if_pos c22] at H
         have c22b0 := eq_true c22
         have c22b1 : decide (t246 ≤ (a0.size : Int)) = true := decide_eq_true c22
         clear c22
         by_cases c23 : x4_1.length < 5864062014805
         ·rw [if_pos c23] at H
          have LMc23 := Aside0.mk c23
          clear c23
          obtain ⟨y247, hy247⟩ : ∃ y_ : List (S95), y_ = (x4_1 ++ [(⟨100, a0.extract (x5_1 : Int).toNat (t246 : Int).toNat⟩ : S95)]) := ⟨_, rfl⟩
          replace H : ((postbagref2_skip.f k1 a0 t246).bind fun t250 => (postbagref2_pieces.l0 k1 a0 y247 t250)) = some (r1, r2) := by first | (rw [hy247]; with_reducible exact H) | (have H2_ := (Option.bind_some _ _).symm.trans H; rw [hy247]; with_reducible exact H2_) | (have H2_ := (Option.bind_some _ _).symm.trans H; with_reducible exact H2_) | with_reducible exact H | (rw [hy247]; exact H) | exact H
          have Ny247 := Aside0.mk hy247
          clear hy247
          replace H := Option.bind_eq_some_iff.mp H
          obtain ⟨t250, A240, H⟩ := H
          replace H : (postbagref2_pieces.l0 k1 a0 y247 t250) = some (r1, r2) := H
          have A24 := Aside0.mk A240
          clear A240
          have H' := Aside0.mk H
          clear H
          have p5 : 0 ≤ (x5_1 : Int) := of_decide_eq_true (by first | (with_reducible assumption) | assumption)
          have q5 : x5_1 < (a0.size : Int) := of_decide_eq_true (by first | (with_reducible assumption) | assumption)
          have hx5 := bt_at a0 x5_1
          replace p5 := eq_true p5
          replace q5 := eq_true q5
          go_upto_region 20 with (first | ((with_reducible refine gate_dst (N := 7) rfl ?_); refine box_event ?hg (N := 7) ?hd (cs := #[.int .u8 0, .string (⟨#[]⟩ : ByteArray)]) (t := 95) ?hr ?_; (case hd => rfl); (case hg => rfl); (case hr => first | (go_simp; done) | (go_simp; rfl)); intro gb238 hg w25 hbox hb; have n0_ := Aside0.mk (Kd.R_below (Kd.R_elderB (by (with_reducible repeat (first | apply Kd.R_alloc | apply Kd.R_drewN | apply Kd.R_drew)); exact HO_4.out) gb238 (Nat.le_of_eq hg.symm)) hb); have n1_ := Aside0.mk (below_step (by repeat (first | (with_reducible first | exact HB.out | apply below_alloc | apply pw_below_drewN | apply below_drew1) | exact HB.out)) hb); have n2_ := Aside0.mk (hbox); have n3_ := Aside0.mk ((by rw [hg]; exact (below_size (by repeat (first | (with_reducible first | exact HB.out | apply below_alloc | apply pw_below_drewN | apply below_drew1) | exact HB.out))) : w.heap.size ≤ gb238)); have n4_ := Aside0.mk ((by rw [hg]; exact (below_size (by repeat (first | (with_reducible first | exact HB.out | apply below_alloc | apply pw_below_drewN | apply below_drew1) | exact HB.out))) : w.heap.size ≤ gb238)); clear HO_4; clear HB; have HO_4 := n0_; have HB := n1_; have BK238 := n2_; have GW238 := n3_; have GE238 := n4_; clear n0_ n1_ n2_ n3_ n4_; clear hb hbox hg; have hcz26_0 : w25.cell? ⟨gb238, 0, none⟩ = some (.int .u8 0) := (blk_cell BK238.out 0).trans rfl; have hcz26_1 : w25.cell? ⟨gb238, 1, none⟩ = some (.string (⟨#[]⟩ : ByteArray)) := (blk_cell BK238.out 1).trans rfl; have hfz26_0 := blk_frozen BK238.out 0; have hfz26_1 := blk_frozen BK238.out 1) | ((with_reducible refine gate_callee (f := 99) rfl ?_); refine goesL_ (some 24) rfl rfl Tryd.func99 (by kernel_rfl) rfl #[.int .u8 (bt a0 x5_1)] rfl (by (try simp only [List.map_toArray, List.map_cons, List.map_nil]); first | done | rfl) ?_; (with_reducible refine (postbagref2_isLetter.calls (bt a0 x5_1) false _ A6.out).mono ?_); rintro e w' ⟨rfl, ⟨nd, rfl⟩⟩; refine ⟨_, rfl, ?_⟩) | ((with_reducible refine gate_callee (f := 101) rfl ?_); refine goesL_ (some 31) rfl rfl Tryd.func101 (by kernel_rfl) rfl #[.int .u8 (bt a0 x5_1)] rfl (by (try simp only [List.map_toArray, List.map_cons, List.map_nil]); first | done | rfl) ?_; (with_reducible refine (postbagref2_isDigit.calls (bt a0 x5_1) true _ A17.out).mono ?_); rintro e w' ⟨rfl, ⟨nd, rfl⟩⟩; refine ⟨_, rfl, ?_⟩) | ((with_reducible refine gate_callee (f := 100) rfl ?_); refine goesL_ (some 35) rfl rfl Tryd.func100 (by kernel_rfl) rfl #[.string a0, .int .i64 x5_1, .bool true] rfl (by (try simp only [List.map_toArray, List.map_cons, List.map_nil]); first | done | rfl) ?_; (with_reducible refine (postbagref2_run.calls k1 a0 x5_1 true t246 _ A19.out).mono ?_); rintro e w' ⟨rfl, ⟨nd, rfl⟩⟩; refine ⟨_, rfl, ?_⟩) | ((with_reducible refine gate_builtin (b := .append) (xs := #[.tmp 64, .tmp 66]) rfl ?_); at_builtin; refine Kd.R_append k95 (w0 := w) w.heap.size rfl (.tmp 64) (.tmp 66) 82 95 (.agg #[(.int .u8 0), (.string ⟨#[]⟩)]) 24 rfl Tryd.underlying82 info95 rfl (by decide) (by omega) u4 x4_1 (⟨100, a0.extract (x5_1 : Int).toNat (t246 : Int).toNat⟩ : S95) [.int .u8 100, .string (a0.extract (x5_1 : Int).toNat (t246 : Int).toNat)] (fun k_ => k_ ≠ gb238) (fun _ => False) rfl (by first | (go_simp; done) | (go_simp; rfl)) ?aP (fun _ hk => hk.elim) ?aF ?aO ?aB ?aS ?aL ?_; (case aP => exact k95_mkM _ _ _ (⟨100, a0.extract (x5_1 : Int).toNat (t246 : Int).toNat⟩ : S95)); (case aB => exact (by repeat (first | (with_reducible first | exact HB.out | apply below_alloc | apply pw_below_drewN | apply below_drew1 | refine below_set ?_ GE238.out) | exact HB.out))); (case aF => exact (fun k_ hk => Kd.freshB (g := gb238) (o := .cells #[.int .u8 100, .string (a0.extract (x5_1 : Int).toNat (t246 : Int).toNat)] 95 (0, 0)) (by (with_reducible repeat first | refine blk_drewN ?_ _ | refine blk_alloc ?_ _); refine blk_put (cs := #[.int .u8 100, .string (⟨#[]⟩ : ByteArray)]) ?_ 1 _ rfl; (with_reducible repeat first | refine blk_drewN ?_ _ | refine blk_alloc ?_ _); refine blk_put (cs := #[.int .u8 (bt a0 x5_1), .string (⟨#[]⟩ : ByteArray)]) ?_ 0 _ rfl; (with_reducible repeat first | refine blk_drewN ?_ _ | refine blk_alloc ?_ _); refine blk_put (cs := #[.int .u8 (bt a0 x5_1), .string (⟨#[]⟩ : ByteArray)]) ?_ 1 _ rfl; (with_reducible repeat first | refine blk_drewN ?_ _ | refine blk_alloc ?_ _); refine blk_put (cs := #[.int .u8 0, .string (⟨#[]⟩ : ByteArray)]) ?_ 0 _ rfl; (with_reducible repeat first | refine blk_drewN ?_ _ | refine blk_alloc ?_ _); exact BK238.out) k_ hk)); (case aO => exact (by (with_reducible repeat (first | apply Kd.R_alloc | apply Kd.R_drewN | apply Kd.R_drew)); exact Kd.R_mono (Kd.R_far (p := ⟨gb238, 1, none⟩) (Kd.R_far (p := ⟨gb238, 0, none⟩) (Kd.R_far (p := ⟨gb238, 1, none⟩) (Kd.R_far (p := ⟨gb238, 0, none⟩) (Kd.R_mono HO_4.out (fun k_ hk => (⟨hk, hk.2⟩ : _ ∧ k_ ≠ gb238))) (fun _ hk => hk.2) (.int .u8 (bt a0 x5_1))) (fun _ hk => hk.2) (.string (⟨#[]⟩ : ByteArray))) (fun _ hk => hk.2) (.int .u8 100)) (fun _ hk => hk.2) (.string (a0.extract (x5_1 : Int).toNat (t246 : Int).toNat))) (fun _ hk => hk.1.2))); (case aS => exact (below_size (by repeat (first | (with_reducible first | exact HB.out | apply below_alloc | apply pw_below_drewN | apply below_drew1 | refine below_set ?_ GE238.out) | exact HB.out)))); (case aL => have := LMc23.out; omega); intro v248 w27 ho hb hg hat; rw [← Ny247.out] at ho; have n0_ := Aside0.mk (blk_grown (g := gb238) (o := .cells #[.int .u8 100, .string (a0.extract (x5_1 : Int).toNat (t246 : Int).toNat)] 95 (0, 0)) (by (with_reducible repeat first | refine blk_drewN ?_ _ | refine blk_alloc ?_ _); refine blk_put (cs := #[.int .u8 100, .string (⟨#[]⟩ : ByteArray)]) ?_ 1 _ rfl; (with_reducible repeat first | refine blk_drewN ?_ _ | refine blk_alloc ?_ _); refine blk_put (cs := #[.int .u8 (bt a0 x5_1), .string (⟨#[]⟩ : ByteArray)]) ?_ 0 _ rfl; (with_reducible repeat first | refine blk_drewN ?_ _ | refine blk_alloc ?_ _); refine blk_put (cs := #[.int .u8 (bt a0 x5_1), .string (⟨#[]⟩ : ByteArray)]) ?_ 1 _ rfl; (with_reducible repeat first | refine blk_drewN ?_ _ | refine blk_alloc ?_ _); refine blk_put (cs := #[.int .u8 0, .string (⟨#[]⟩ : ByteArray)]) ?_ 0 _ rfl; (with_reducible repeat first | refine blk_drewN ?_ _ | refine blk_alloc ?_ _); exact BK238.out) hg (Kd.R_away HO_4.out (fun _ hk => hk.2))); have n1_ := Aside0.mk (hb); have n2_ := Aside0.mk (ho); clear BK238; clear HB; clear HO_4; have BK238 := n0_; have HB := n1_; have HO249 := n2_; clear n0_ n1_ n2_; clear ho hb hg hat) | ((with_reducible refine gate_callee (f := 98) rfl ?_); refine goesL_ (some 70) rfl rfl Tryd.func98 (by kernel_rfl) rfl #[.string a0, .int .i64 t246] rfl (by (try simp only [List.map_toArray, List.map_cons, List.map_nil]); first | done | rfl) ?_; (with_reducible refine (postbagref2_skip.calls k1 a0 t246 t250 _ A24.out).mono ?_); rintro e w' ⟨rfl, ⟨nd, rfl⟩⟩; refine ⟨_, rfl, ?_⟩))
          generalize hq_ : World.drewN _ _ = wz
          have n0_ : Aside0 (wz.heap[gb238]? = some (.cells #[.int .u8 100, .string (⟨#[]⟩ : ByteArray)] 95 (0, 0))) := ⟨by rw [← hq_]; (with_reducible repeat first | refine blk_drewN ?_ _ | refine blk_alloc ?_ _); refine blk_put (cs := #[.int .u8 (bt a0 x5_1), .string (⟨#[]⟩ : ByteArray)]) ?_ 0 _ rfl; (with_reducible repeat first | refine blk_drewN ?_ _ | refine blk_alloc ?_ _); refine blk_put (cs := #[.int .u8 (bt a0 x5_1), .string (⟨#[]⟩ : ByteArray)]) ?_ 1 _ rfl; (with_reducible repeat first | refine blk_drewN ?_ _ | refine blk_alloc ?_ _); refine blk_put (cs := #[.int .u8 0, .string (⟨#[]⟩ : ByteArray)]) ?_ 0 _ rfl; (with_reducible repeat first | refine blk_drewN ?_ _ | refine blk_alloc ?_ _); exact BK238.out⟩
          have n1_ : Aside0 (Below w.heap.size w wz) := ⟨by rw [← hq_]; exact (by repeat (first | (with_reducible first | exact HB.out | apply below_alloc | apply pw_below_drewN | apply below_drew1 | refine below_set ?_ GE238.out) | exact HB.out))⟩
          have n2_ : Aside0 (Kd.R k95 95 wz w.heap.size (fun k_ => k_ ≠ gb238) u4 x4_1) := ⟨by rw [← hq_]; (with_reducible repeat (first | apply Kd.R_alloc | apply Kd.R_drewN | apply Kd.R_drew)); exact Kd.R_mono (Kd.R_far (p := ⟨gb238, 0, none⟩) (Kd.R_far (p := ⟨gb238, 1, none⟩) (Kd.R_far (p := ⟨gb238, 0, none⟩) (Kd.R_mono HO_4.out (fun k_ hk => (⟨hk, hk.2⟩ : _ ∧ k_ ≠ gb238))) (fun _ hk => hk.2) (.int .u8 (bt a0 x5_1))) (fun _ hk => hk.2) (.string (⟨#[]⟩ : ByteArray))) (fun _ hk => hk.2) (.int .u8 100)) (fun _ hk => hk.1.2)⟩
          clear BK238 HB HO_4 hq_
          have BK238 := n0_; have HB := n1_; have HO_4 := n2_; clear n0_ n1_ n2_
          have kz0_ : wz.cell? ⟨gb238, 0, none⟩ = some (.int .u8 100) := (blk_cell BK238.out 0).trans rfl
          have kz1_ : wz.cell? ⟨gb238, 1, none⟩ = some (.string (⟨#[]⟩ : ByteArray)) := (blk_cell BK238.out 1).trans rfl
          have fz0_ := blk_frozen BK238.out 0
          have fz1_ := blk_frozen BK238.out 1
          go_upto_region 21 with fail
          generalize hq_ : World.setCell _ _ _ = wy
          have n0_ : Aside0 (wy.heap[gb238]? = some (.cells #[.int .u8 100, .string (a0.extract (x5_1 : Int).toNat (t246 : Int).toNat)] 95 (0, 0))) := ⟨by rw [← hq_]; (with_reducible repeat first | refine blk_drewN ?_ _ | refine blk_alloc ?_ _); refine blk_put (cs := #[.int .u8 100, .string (⟨#[]⟩ : ByteArray)]) ?_ 1 _ rfl; exact BK238.out⟩
          have n1_ : Aside0 (Below w.heap.size w wy) := ⟨by rw [← hq_]; exact (by repeat (first | (with_reducible first | exact HB.out | apply below_alloc | apply pw_below_drewN | apply below_drew1 | refine below_set ?_ GE238.out) | exact HB.out))⟩
          have n2_ : Aside0 (Kd.R k95 95 wy w.heap.size (fun k_ => k_ ≠ gb238) u4 x4_1) := ⟨by rw [← hq_]; (with_reducible repeat (first | apply Kd.R_alloc | apply Kd.R_drewN | apply Kd.R_drew)); exact Kd.R_mono (Kd.R_far (p := ⟨gb238, 1, none⟩) (Kd.R_mono HO_4.out (fun k_ hk => (⟨hk, hk⟩ : _ ∧ k_ ≠ gb238))) (fun _ hk => hk.2) (.string (a0.extract (x5_1 : Int).toNat (t246 : Int).toNat))) (fun _ hk => hk.1)⟩
          clear BK238 HB HO_4 hq_
          have BK238 := n0_; have HB := n1_; have HO_4 := n2_; clear n0_ n1_ n2_
          have ky0_ : wy.cell? ⟨gb238, 0, none⟩ = some (.int .u8 100) := (blk_cell BK238.out 0).trans rfl
          have ky1_ : wy.cell? ⟨gb238, 1, none⟩ = some (.string (a0.extract (x5_1 : Int).toNat (t246 : Int).toNat)) := (blk_cell BK238.out 1).trans rfl
          go_wp2_with (first | ((with_reducible refine gate_builtin (b := .append) (xs := #[.tmp 64, .tmp 66]) rfl ?_); at_builtin; refine Kd.R_append k95 (w0 := w) w.heap.size rfl (.tmp 64) (.tmp 66) 82 95 (.agg #[(.int .u8 0), (.string ⟨#[]⟩)]) 24 rfl Tryd.underlying82 info95 rfl (by decide) (by omega) u4 x4_1 (⟨100, a0.extract (x5_1 : Int).toNat (t246 : Int).toNat⟩ : S95) [.int .u8 100, .string (a0.extract (x5_1 : Int).toNat (t246 : Int).toNat)] (fun k_ => k_ ≠ gb238) (fun _ => False) rfl (by first | (go_simp; done) | (go_simp; rfl)) ?aP (fun _ hk => hk.elim) ?aF ?aO ?aB ?aS ?aL ?_; (case aP => exact k95_mkM _ _ _ (⟨100, a0.extract (x5_1 : Int).toNat (t246 : Int).toNat⟩ : S95)); (case aB => exact (by repeat (first | (with_reducible first | exact HB.out | apply below_alloc | apply pw_below_drewN | apply below_drew1 | refine below_set ?_ GE238.out) | exact HB.out))); (case aF => exact (fun k_ hk => Kd.freshB (g := gb238) (o := .cells #[.int .u8 100, .string (a0.extract (x5_1 : Int).toNat (t246 : Int).toNat)] 95 (0, 0)) (by (with_reducible repeat first | refine blk_drewN ?_ _ | refine blk_alloc ?_ _); exact BK238.out) k_ hk)); (case aO => exact (by (with_reducible repeat (first | apply Kd.R_alloc | apply Kd.R_drewN | apply Kd.R_drew)); exact HO_4.out)); (case aS => exact (below_size (by repeat (first | (with_reducible first | exact HB.out | apply below_alloc | apply pw_below_drewN | apply below_drew1 | refine below_set ?_ GE238.out) | exact HB.out)))); (case aL => have := LMc23.out; omega); intro v248 w27 ho hb hg hat; rw [← Ny247.out] at ho; have n0_ := Aside0.mk (blk_grown (g := gb238) (o := .cells #[.int .u8 100, .string (a0.extract (x5_1 : Int).toNat (t246 : Int).toNat)] 95 (0, 0)) (by (with_reducible repeat first | refine blk_drewN ?_ _ | refine blk_alloc ?_ _); exact BK238.out) hg (Kd.R_away HO_4.out (fun _ hk => hk))); have n1_ := Aside0.mk (hb); have n2_ := Aside0.mk (ho); clear BK238; clear HB; clear HO_4; have BK238 := n0_; have HB := n1_; have HO249 := n2_; clear n0_ n1_ n2_; clear ho hb hg hat) | ((with_reducible refine gate_callee (f := 98) rfl ?_); refine goesL_ (some 70) rfl rfl Tryd.func98 (by kernel_rfl) rfl #[.string a0, .int .i64 t246] rfl (by (try simp only [List.map_toArray, List.map_cons, List.map_nil]); first | done | rfl) ?_; (with_reducible refine (postbagref2_skip.calls k1 a0 t246 t250 _ A24.out).mono ?_); rintro e w' ⟨rfl, ⟨nd, rfl⟩⟩; refine ⟨_, rfl, ?_⟩))
          go_roundg k1
          case measure => have := HK1.out; omega
          case rel => exact ⟨(y247), (t250), (by first | rfl | (simp; done) | (simp [*]; done)), H', ⟨by have := HK1.out; omega⟩, ⟨by (with_reducible repeat (first | apply Kd.R_alloc | apply Kd.R_drewN | apply Kd.R_drew)); exact Kd.R_mono HO249.out (fun _ hk => trivial)⟩, ⟨by repeat (first | (with_reducible first | exact HB.out | apply below_alloc | apply pw_below_drewN | apply below_drew1 | refine below_set ?_ GE238.out) | exact HB.out)⟩⟩
         ·rw [if_neg c23] at H
          exact absurd H (by simp)
        ·rw [if_neg c22] at H
         exact absurd H (by simp)
       ·rw [if_neg c21] at H
        exact absurd H (by simp)
      ·replace c18 := Bool.eq_false_iff.mpr c18
       subst c18
       have H1 : (if (bt a0 x5_1) = 43 then (postbagref2_pieces.j1 k1 a0 x4_1 x5_1 (bt a0 x5_1) (wrap64 (x5_1 + 1)) true (bt a0 x5_1) (⟨#[]⟩ : ByteArray)) else (postbagref2_pieces.j1 k1 a0 x4_1 x5_1 (bt a0 x5_1) (wrap64 (x5_1 + 1)) ((bt a0 x5_1) == 45) (bt a0 x5_1) (⟨#[]⟩ : ByteArray))) = some (r1, r2) := by rw [if_neg (show ¬ (false = true) by decide)] at H; exact H
       clear H
       have H := H1
       clear H1
       have HC28 := Aside0.mk H
       clear H
       have p5 : 0 ≤ (x5_1 : Int) := of_decide_eq_true (by first | (with_reducible assumption) | assumption)
       have q5 : x5_1 < (a0.size : Int) := of_decide_eq_true (by first | (with_reducible assumption) | assumption)
       have hx5 := bt_at a0 x5_1
       replace p5 := eq_true p5
       replace q5 := eq_true q5
       go_upto_region 13 with (first | ((with_reducible refine gate_dst (N := 7) rfl ?_); refine box_event ?hg (N := 7) ?hd (cs := #[.int .u8 0, .string (⟨#[]⟩ : ByteArray)]) (t := 95) ?hr ?_; (case hd => rfl); (case hg => rfl); (case hr => first | (go_simp; done) | (go_simp; rfl)); intro gb238 hg w29 hbox hb; have n0_ := Aside0.mk (Kd.R_below (Kd.R_elderB (by (with_reducible repeat (first | apply Kd.R_alloc | apply Kd.R_drewN | apply Kd.R_drew)); exact HO_4.out) gb238 (Nat.le_of_eq hg.symm)) hb); have n1_ := Aside0.mk (below_step (by repeat (first | (with_reducible first | exact HB.out | apply below_alloc | apply pw_below_drewN | apply below_drew1) | exact HB.out)) hb); have n2_ := Aside0.mk (hbox); have n3_ := Aside0.mk ((by rw [hg]; exact (below_size (by repeat (first | (with_reducible first | exact HB.out | apply below_alloc | apply pw_below_drewN | apply below_drew1) | exact HB.out))) : w.heap.size ≤ gb238)); have n4_ := Aside0.mk ((by rw [hg]; exact (below_size (by repeat (first | (with_reducible first | exact HB.out | apply below_alloc | apply pw_below_drewN | apply below_drew1) | exact HB.out))) : w.heap.size ≤ gb238)); clear HO_4; clear HB; have HO_4 := n0_; have HB := n1_; have BK238 := n2_; have GW238 := n3_; have GE238 := n4_; clear n0_ n1_ n2_ n3_ n4_; clear hb hbox hg; have hcz30_0 : w29.cell? ⟨gb238, 0, none⟩ = some (.int .u8 0) := (blk_cell BK238.out 0).trans rfl; have hcz30_1 : w29.cell? ⟨gb238, 1, none⟩ = some (.string (⟨#[]⟩ : ByteArray)) := (blk_cell BK238.out 1).trans rfl; have hfz30_0 := blk_frozen BK238.out 0; have hfz30_1 := blk_frozen BK238.out 1) | ((with_reducible refine gate_callee (f := 99) rfl ?_); refine goesL_ (some 24) rfl rfl Tryd.func99 (by kernel_rfl) rfl #[.int .u8 (bt a0 x5_1)] rfl (by (try simp only [List.map_toArray, List.map_cons, List.map_nil]); first | done | rfl) ?_; (with_reducible refine (postbagref2_isLetter.calls (bt a0 x5_1) false _ A6.out).mono ?_); rintro e w' ⟨rfl, ⟨nd, rfl⟩⟩; refine ⟨_, rfl, ?_⟩) | ((with_reducible refine gate_callee (f := 101) rfl ?_); refine goesL_ (some 31) rfl rfl Tryd.func101 (by kernel_rfl) rfl #[.int .u8 (bt a0 x5_1)] rfl (by (try simp only [List.map_toArray, List.map_cons, List.map_nil]); first | done | rfl) ?_; (with_reducible refine (postbagref2_isDigit.calls (bt a0 x5_1) false _ A17.out).mono ?_); rintro e w' ⟨rfl, ⟨nd, rfl⟩⟩; refine ⟨_, rfl, ?_⟩))
       (try simp only [Act.put, s1_, s2_, s3_])
       go_cut [36] (fun v36 wc => ∃ (kq : Nat) (x36_27 : Bool), v36 = .bool x36_27 ∧ Aside0 (postbagref2_pieces.j1 kq a0 x4_1 x5_1 (bt a0 x5_1) (wrap64 (x5_1 + 1)) x36_27 (bt a0 x5_1) (⟨#[]⟩ : ByteArray) = some (r1, r2)) ∧ Aside0 (kq ≤ k1) ∧ Aside0 (Kd.R k95 95 wc w.heap.size (fun k_ => k_ ≠ gb238) u4 x4_1) ∧ Aside0 (wc.heap[gb238]? = some (.cells #[.int .u8 (bt a0 x5_1), .string (⟨#[]⟩ : ByteArray)] 95 (0, 0))) ∧ Aside0 (Below w.heap.size w wc))
       case first =>
        have H := HC28.out
        clear HC28
        by_cases c31 : (bt a0 x5_1) = 43
        ·rw [if_pos c31] at H
         have c31b0 : ((bt a0 x5_1) == 43) = true := beq_iff_eq.mpr c31
         have c31b1 : ((bt a0 x5_1) != 43) = false := bne_eq_false_iff_eq.mpr c31
         clear c31
         (first | rw [c31b0] | (simp only [i64_w, i32_w]; rw [c31b0]) | skip)
         have H' := Aside0.mk H
         clear H
         go_wp2
         go_meet
         case rel => exact ⟨_, (true), (by first | rfl | (simp; done) | (simp [*]; done)), H', ⟨by have := HK1.out; first | omega | exact Nat.le_refl _⟩, ⟨by (with_reducible repeat (first | apply Kd.R_alloc | apply Kd.R_drewN | apply Kd.R_drew)); exact Kd.R_mono (Kd.R_far (p := ⟨gb238, 1, none⟩) (Kd.R_far (p := ⟨gb238, 0, none⟩) (Kd.R_mono HO_4.out (fun k_ hk => (⟨hk, hk.2⟩ : _ ∧ k_ ≠ gb238))) (fun _ hk => hk.2) (.int .u8 (bt a0 x5_1))) (fun _ hk => hk.2) (.string (⟨#[]⟩ : ByteArray))) (fun _ hk => hk.1.2)⟩, ⟨by (with_reducible repeat first | refine blk_drewN ?_ _ | refine blk_alloc ?_ _); refine blk_put (cs := #[.int .u8 (bt a0 x5_1), .string (⟨#[]⟩ : ByteArray)]) ?_ 1 _ rfl; (with_reducible repeat first | refine blk_drewN ?_ _ | refine blk_alloc ?_ _); refine blk_put (cs := #[.int .u8 0, .string (⟨#[]⟩ : ByteArray)]) ?_ 0 _ rfl; (with_reducible repeat first | refine blk_drewN ?_ _ | refine blk_alloc ?_ _); exact BK238.out⟩, ⟨by repeat (first | (with_reducible first | exact HB.out | apply below_alloc | apply pw_below_drewN | apply below_drew1 | refine below_set ?_ GE238.out) | exact HB.out)⟩⟩
        ·rw [if_neg c31] at H
         have c31b0 : ((bt a0 x5_1) == 43) = false := beq_eq_false_iff_ne.mpr c31
         have c31b1 : ((bt a0 x5_1) != 43) = true := bne_iff_ne.mpr c31
         (first | rw [c31b0] | (simp only [i64_w, i32_w]; rw [c31b0]) | skip)
         have H' := Aside0.mk H
         clear H
         go_wp2
         go_meet
         case rel => exact ⟨_, (((bt a0 x5_1) == 45)), (by first | rfl | (simp; done) | (simp [*]; done)), H', ⟨by have := HK1.out; first | omega | exact Nat.le_refl _⟩, ⟨by (with_reducible repeat (first | apply Kd.R_alloc | apply Kd.R_drewN | apply Kd.R_drew)); exact Kd.R_mono (Kd.R_far (p := ⟨gb238, 1, none⟩) (Kd.R_far (p := ⟨gb238, 0, none⟩) (Kd.R_mono HO_4.out (fun k_ hk => (⟨hk, hk.2⟩ : _ ∧ k_ ≠ gb238))) (fun _ hk => hk.2) (.int .u8 (bt a0 x5_1))) (fun _ hk => hk.2) (.string (⟨#[]⟩ : ByteArray))) (fun _ hk => hk.1.2)⟩, ⟨by (with_reducible repeat first | refine blk_drewN ?_ _ | refine blk_alloc ?_ _); refine blk_put (cs := #[.int .u8 (bt a0 x5_1), .string (⟨#[]⟩ : ByteArray)]) ?_ 1 _ rfl; (with_reducible repeat first | refine blk_drewN ?_ _ | refine blk_alloc ?_ _); refine blk_put (cs := #[.int .u8 0, .string (⟨#[]⟩ : ByteArray)]) ?_ 0 _ rfl; (with_reducible repeat first | refine blk_drewN ?_ _ | refine blk_alloc ?_ _); exact BK238.out⟩, ⟨by repeat (first | (with_reducible first | exact HB.out | apply below_alloc | apply pw_below_drewN | apply below_drew1 | refine below_set ?_ GE238.out) | exact HB.out)⟩⟩
       case rest =>
        clear HC28
        try clear c1
        try clear c2
        try clear p2
        try clear c3
        try clear c3b0
        try clear c4
        try clear c4b0
        try clear p5
        try clear q5
        try clear hx5
        try clear p6
        try clear c7
        try clear c8
        try clear c9
        try clear c9b0
        try clear c10
        try clear c10b0
        try clear c10b1
        try clear c11
        try clear c11b0
        try clear c11b1
        try clear c12
        try clear c18
        try clear c20
        try clear c20b0
        try clear c21
        try clear c21b0
        try clear c21b1
        try clear c22
        try clear c22b0
        try clear c22b1
        try clear c23
        try clear c31
        try clear c31b0
        try clear c31b1
        try clear hcz15_0
        try clear hcz15_1
        try clear hcz26_0
        try clear hcz26_1
        try clear hcz30_0
        try clear hcz30_1
        try clear hfz15_0
        try clear hfz15_1
        try clear hfz26_0
        try clear hfz26_1
        try clear hfz30_0
        try clear hfz30_1
        try clear p2
        try clear p5
        try clear q5
        obtain ⟨kq, x36_27, rfl, HA, HJ27, HO_4, BK238, HB⟩ := hcut
        cases kq with
        | zero => exact absurd HA.out (by simp [postbagref2_pieces.j1])
        | succ kj27 =>
         have H := HA.out
         clear HA
         simp only [postbagref2_pieces.j1] at H
         by_cases c32 : x36_27 = true
         ·subst c32
          have H1 : ((postbagref2_run.f kj27 a0 (wrap64 (x5_1 + 1)) true).bind fun t251 => (if t251 = (wrap64 (x5_1 + 1)) then (some (([] : List (S95)), false)) else (if 0 ≤ x5_1 then (if x5_1 ≤ t251 then (if t251 ≤ (a0.size : Int) then (if x4_1.length < 5864062014805 then ((postbagref2_skip.f kj27 a0 t251).bind fun t255 => (postbagref2_pieces.l0 kj27 a0 (x4_1 ++ [(⟨115, a0.extract (x5_1 : Int).toNat (t251 : Int).toNat⟩ : S95)]) t255)) else (none)) else (none)) else (none)) else (none)))) = some (r1, r2) := by rw [if_pos rfl] at H; exact H
          clear H
          have H := H1
          clear H1
          replace H := Option.bind_eq_some_iff.mp H
          obtain ⟨t251, A330, H⟩ := H
          replace H : (if t251 = (wrap64 (x5_1 + 1)) then (some (([] : List (S95)), false)) else (if 0 ≤ x5_1 then (if x5_1 ≤ t251 then (if t251 ≤ (a0.size : Int) then (if x4_1.length < 5864062014805 then ((postbagref2_skip.f kj27 a0 t251).bind fun t255 => (postbagref2_pieces.l0 kj27 a0 (x4_1 ++ [(⟨115, a0.extract (x5_1 : Int).toNat (t251 : Int).toNat⟩ : S95)]) t255)) else (none)) else (none)) else (none)) else (none))) = some (r1, r2) := H
          have A33 := Aside0.mk A330
          clear A330
          by_cases c34 : t251 = (wrap64 (x5_1 + 1))
          ·rw [if_pos c34] at H
           have c34b0 : (t251 == (wrap64 (x5_1 + 1))) = true := beq_iff_eq.mpr c34
           have c34b1 : (t251 != (wrap64 (x5_1 + 1))) = false := bne_eq_false_iff_eq.mpr c34
           clear c34
           simp only [Option.some.injEq, Prod.mk.injEq] at H
           obtain ⟨rfl, rfl⟩ := H
           have hcz35_0 : wc.cell? ⟨gb238, 0, none⟩ = some (.int .u8 (bt a0 x5_1)) := (blk_cell BK238.out 0).trans rfl
           have hcz35_1 : wc.cell? ⟨gb238, 1, none⟩ = some (.string (⟨#[]⟩ : ByteArray)) := (blk_cell BK238.out 1).trans rfl
           have hfz35_0 := blk_frozen BK238.out 0
           have hfz35_1 := blk_frozen BK238.out 1
           go_wp2_with (first | ((with_reducible refine gate_callee (f := 100) rfl ?_); refine goesL_ (some 47) rfl rfl Tryd.func100 (by kernel_rfl) rfl #[.string a0, .int .i64 (wrap64 (x5_1 + 1)), .bool true] rfl (by (try simp only [List.map_toArray, List.map_cons, List.map_nil]); first | done | rfl) ?_; (with_reducible refine (postbagref2_run.calls kj27 a0 (wrap64 (x5_1 + 1)) true t251 _ A33.out).mono ?_); rintro e w' ⟨rfl, ⟨nd, rfl⟩⟩; refine ⟨_, rfl, ?_⟩))
           go_ret2
           exact ⟨_, by first | rfl | (simp [errW_none, errW_some] <;> rfl) | (simp [*, errW_none, errW_some] <;> rfl), Kd.R_nil _ _ _ _ _, by repeat (first | (with_reducible first | exact HB.out | apply below_alloc | apply pw_below_drewN | apply below_drew1 | refine below_set ?_ GE238.out) | exact HB.out)⟩
          ·rw [if_neg c34] at H
           have c34b0 : (t251 == (wrap64 (x5_1 + 1))) = false := beq_eq_false_iff_ne.mpr c34
           have c34b1 : (t251 != (wrap64 (x5_1 + 1))) = true := bne_iff_ne.mpr c34
           by_cases c36 : 0 ≤ x5_1
           ·rw [if_pos c36] at H
            have c36b0 := eq_true c36
            have c36b1 : decide (0 ≤ x5_1) = true := decide_eq_true c36
            clear c36
            by_cases c37 : x5_1 ≤ t251
            ·rw [if_pos c37] at H
             have c37b0 := eq_true c37
             have c37b1 : decide (x5_1 ≤ t251) = true := decide_eq_true c37
             clear c37
             by_cases c38 : t251 ≤ (a0.size : Int)
             ·rw [if_pos c38] at H
              have c38b0 := eq_true c38
              have c38b1 : decide (t251 ≤ (a0.size : Int)) = true := decide_eq_true c38
              clear c38
              by_cases c39 : x4_1.length < 5864062014805
              ·rw [if_pos c39] at H
               have LMc39 := Aside0.mk c39
               clear c39
               obtain ⟨y252, hy252⟩ : ∃ y_ : List (S95), y_ = (x4_1 ++ [(⟨115, a0.extract (x5_1 : Int).toNat (t251 : Int).toNat⟩ : S95)]) := ⟨_, rfl⟩
               replace H : ((postbagref2_skip.f kj27 a0 t251).bind fun t255 => (postbagref2_pieces.l0 kj27 a0 y252 t255)) = some (r1, r2) := by first | (rw [hy252]; with_reducible exact H) | (have H2_ := (Option.bind_some _ _).symm.trans H; rw [hy252]; with_reducible exact H2_) | (have H2_ := (Option.bind_some _ _).symm.trans H; with_reducible exact H2_) | with_reducible exact H | (rw [hy252]; exact H) | exact H
               have Ny252 := Aside0.mk hy252
               clear hy252
               replace H := Option.bind_eq_some_iff.mp H
               obtain ⟨t255, A400, H⟩ := H
               replace H : (postbagref2_pieces.l0 kj27 a0 y252 t255) = some (r1, r2) := H
               have A40 := Aside0.mk A400
               clear A400
               have H' := Aside0.mk H
               clear H
               have hcz41_0 : wc.cell? ⟨gb238, 0, none⟩ = some (.int .u8 (bt a0 x5_1)) := (blk_cell BK238.out 0).trans rfl
               have hcz41_1 : wc.cell? ⟨gb238, 1, none⟩ = some (.string (⟨#[]⟩ : ByteArray)) := (blk_cell BK238.out 1).trans rfl
               have hfz41_0 := blk_frozen BK238.out 0
               have hfz41_1 := blk_frozen BK238.out 1
               go_upto_region 20 with (first | ((with_reducible refine gate_callee (f := 100) rfl ?_); refine goesL_ (some 47) rfl rfl Tryd.func100 (by kernel_rfl) rfl #[.string a0, .int .i64 (wrap64 (x5_1 + 1)), .bool true] rfl (by (try simp only [List.map_toArray, List.map_cons, List.map_nil]); first | done | rfl) ?_; (with_reducible refine (postbagref2_run.calls kj27 a0 (wrap64 (x5_1 + 1)) true t251 _ A33.out).mono ?_); rintro e w' ⟨rfl, ⟨nd, rfl⟩⟩; refine ⟨_, rfl, ?_⟩) | ((with_reducible refine gate_builtin (b := .append) (xs := #[.tmp 64, .tmp 66]) rfl ?_); at_builtin; refine Kd.R_append k95 (w0 := w) w.heap.size rfl (.tmp 64) (.tmp 66) 82 95 (.agg #[(.int .u8 0), (.string ⟨#[]⟩)]) 24 rfl Tryd.underlying82 info95 rfl (by decide) (by omega) u4 x4_1 (⟨115, a0.extract (x5_1 : Int).toNat (t251 : Int).toNat⟩ : S95) [.int .u8 115, .string (a0.extract (x5_1 : Int).toNat (t251 : Int).toNat)] (fun k_ => k_ ≠ gb238) (fun _ => False) rfl (by first | (go_simp; done) | (go_simp; rfl)) ?aP (fun _ hk => hk.elim) ?aF ?aO ?aB ?aS ?aL ?_; (case aP => exact k95_mkM _ _ _ (⟨115, a0.extract (x5_1 : Int).toNat (t251 : Int).toNat⟩ : S95)); (case aB => exact (by repeat (first | (with_reducible first | exact HB.out | apply below_alloc | apply pw_below_drewN | apply below_drew1 | refine below_set ?_ GE238.out) | exact HB.out))); (case aF => exact (fun k_ hk => Kd.freshB (g := gb238) (o := .cells #[.int .u8 115, .string (a0.extract (x5_1 : Int).toNat (t251 : Int).toNat)] 95 (0, 0)) (by (with_reducible repeat first | refine blk_drewN ?_ _ | refine blk_alloc ?_ _); refine blk_put (cs := #[.int .u8 115, .string (⟨#[]⟩ : ByteArray)]) ?_ 1 _ rfl; (with_reducible repeat first | refine blk_drewN ?_ _ | refine blk_alloc ?_ _); refine blk_put (cs := #[.int .u8 (bt a0 x5_1), .string (⟨#[]⟩ : ByteArray)]) ?_ 0 _ rfl; (with_reducible repeat first | refine blk_drewN ?_ _ | refine blk_alloc ?_ _); exact BK238.out) k_ hk)); (case aO => exact (by (with_reducible repeat (first | apply Kd.R_alloc | apply Kd.R_drewN | apply Kd.R_drew)); exact Kd.R_mono (Kd.R_far (p := ⟨gb238, 1, none⟩) (Kd.R_far (p := ⟨gb238, 0, none⟩) (Kd.R_mono HO_4.out (fun k_ hk => (⟨hk, hk⟩ : _ ∧ k_ ≠ gb238))) (fun _ hk => hk.2) (.int .u8 115)) (fun _ hk => hk.2) (.string (a0.extract (x5_1 : Int).toNat (t251 : Int).toNat))) (fun _ hk => hk.1))); (case aS => exact (below_size (by repeat (first | (with_reducible first | exact HB.out | apply below_alloc | apply pw_below_drewN | apply below_drew1 | refine below_set ?_ GE238.out) | exact HB.out)))); (case aL => have := LMc39.out; omega); intro v253 w42 ho hb hg hat; rw [← Ny252.out] at ho; have n0_ := Aside0.mk (blk_grown (g := gb238) (o := .cells #[.int .u8 115, .string (a0.extract (x5_1 : Int).toNat (t251 : Int).toNat)] 95 (0, 0)) (by (with_reducible repeat first | refine blk_drewN ?_ _ | refine blk_alloc ?_ _); refine blk_put (cs := #[.int .u8 115, .string (⟨#[]⟩ : ByteArray)]) ?_ 1 _ rfl; (with_reducible repeat first | refine blk_drewN ?_ _ | refine blk_alloc ?_ _); refine blk_put (cs := #[.int .u8 (bt a0 x5_1), .string (⟨#[]⟩ : ByteArray)]) ?_ 0 _ rfl; (with_reducible repeat first | refine blk_drewN ?_ _ | refine blk_alloc ?_ _); exact BK238.out) hg (Kd.R_away HO_4.out (fun _ hk => hk))); have n1_ := Aside0.mk (hb); have n2_ := Aside0.mk (ho); clear BK238; clear HB; clear HO_4; have BK238 := n0_; have HB := n1_; have HO254 := n2_; clear n0_ n1_ n2_; clear ho hb hg hat) | ((with_reducible refine gate_callee (f := 98) rfl ?_); refine goesL_ (some 70) rfl rfl Tryd.func98 (by kernel_rfl) rfl #[.string a0, .int .i64 t251] rfl (by (try simp only [List.map_toArray, List.map_cons, List.map_nil]); first | done | rfl) ?_; (with_reducible refine (postbagref2_skip.calls kj27 a0 t251 t255 _ A40.out).mono ?_); rintro e w' ⟨rfl, ⟨nd, rfl⟩⟩; refine ⟨_, rfl, ?_⟩))
               generalize hq_ : World.drewN _ _ = wz
               have n0_ : Aside0 (wz.heap[gb238]? = some (.cells #[.int .u8 115, .string (⟨#[]⟩ : ByteArray)] 95 (0, 0))) := ⟨by rw [← hq_]; (with_reducible repeat first | refine blk_drewN ?_ _ | refine blk_alloc ?_ _); refine blk_put (cs := #[.int .u8 (bt a0 x5_1), .string (⟨#[]⟩ : ByteArray)]) ?_ 0 _ rfl; (with_reducible repeat first | refine blk_drewN ?_ _ | refine blk_alloc ?_ _); exact BK238.out⟩
               have n1_ : Aside0 (Below w.heap.size w wz) := ⟨by rw [← hq_]; exact (by repeat (first | (with_reducible first | exact HB.out | apply below_alloc | apply pw_below_drewN | apply below_drew1 | refine below_set ?_ GE238.out) | exact HB.out))⟩
               have n2_ : Aside0 (Kd.R k95 95 wz w.heap.size (fun k_ => k_ ≠ gb238) u4 x4_1) := ⟨by rw [← hq_]; (with_reducible repeat (first | apply Kd.R_alloc | apply Kd.R_drewN | apply Kd.R_drew)); exact Kd.R_mono (Kd.R_far (p := ⟨gb238, 0, none⟩) (Kd.R_mono HO_4.out (fun k_ hk => (⟨hk, hk⟩ : _ ∧ k_ ≠ gb238))) (fun _ hk => hk.2) (.int .u8 115)) (fun _ hk => hk.1)⟩
               clear BK238 HB HO_4 hq_
               have BK238 := n0_; have HB := n1_; have HO_4 := n2_; clear n0_ n1_ n2_
               have kz0_ : wz.cell? ⟨gb238, 0, none⟩ = some (.int .u8 115) := (blk_cell BK238.out 0).trans rfl
               have kz1_ : wz.cell? ⟨gb238, 1, none⟩ = some (.string (⟨#[]⟩ : ByteArray)) := (blk_cell BK238.out 1).trans rfl
               have fz0_ := blk_frozen BK238.out 0
               have fz1_ := blk_frozen BK238.out 1
               go_upto_region 21 with fail
               generalize hq_ : World.setCell _ _ _ = wy
               have n0_ : Aside0 (wy.heap[gb238]? = some (.cells #[.int .u8 115, .string (a0.extract (x5_1 : Int).toNat (t251 : Int).toNat)] 95 (0, 0))) := ⟨by rw [← hq_]; (with_reducible repeat first | refine blk_drewN ?_ _ | refine blk_alloc ?_ _); refine blk_put (cs := #[.int .u8 115, .string (⟨#[]⟩ : ByteArray)]) ?_ 1 _ rfl; exact BK238.out⟩
               have n1_ : Aside0 (Below w.heap.size w wy) := ⟨by rw [← hq_]; exact (by repeat (first | (with_reducible first | exact HB.out | apply below_alloc | apply pw_below_drewN | apply below_drew1 | refine below_set ?_ GE238.out) | exact HB.out))⟩
               have n2_ : Aside0 (Kd.R k95 95 wy w.heap.size (fun k_ => k_ ≠ gb238) u4 x4_1) := ⟨by rw [← hq_]; (with_reducible repeat (first | apply Kd.R_alloc | apply Kd.R_drewN | apply Kd.R_drew)); exact Kd.R_mono (Kd.R_far (p := ⟨gb238, 1, none⟩) (Kd.R_mono HO_4.out (fun k_ hk => (⟨hk, hk⟩ : _ ∧ k_ ≠ gb238))) (fun _ hk => hk.2) (.string (a0.extract (x5_1 : Int).toNat (t251 : Int).toNat))) (fun _ hk => hk.1)⟩
               clear BK238 HB HO_4 hq_
               have BK238 := n0_; have HB := n1_; have HO_4 := n2_; clear n0_ n1_ n2_
               have ky0_ : wy.cell? ⟨gb238, 0, none⟩ = some (.int .u8 115) := (blk_cell BK238.out 0).trans rfl
               have ky1_ : wy.cell? ⟨gb238, 1, none⟩ = some (.string (a0.extract (x5_1 : Int).toNat (t251 : Int).toNat)) := (blk_cell BK238.out 1).trans rfl
               go_wp2_with (first | ((with_reducible refine gate_builtin (b := .append) (xs := #[.tmp 64, .tmp 66]) rfl ?_); at_builtin; refine Kd.R_append k95 (w0 := w) w.heap.size rfl (.tmp 64) (.tmp 66) 82 95 (.agg #[(.int .u8 0), (.string ⟨#[]⟩)]) 24 rfl Tryd.underlying82 info95 rfl (by decide) (by omega) u4 x4_1 (⟨115, a0.extract (x5_1 : Int).toNat (t251 : Int).toNat⟩ : S95) [.int .u8 115, .string (a0.extract (x5_1 : Int).toNat (t251 : Int).toNat)] (fun k_ => k_ ≠ gb238) (fun _ => False) rfl (by first | (go_simp; done) | (go_simp; rfl)) ?aP (fun _ hk => hk.elim) ?aF ?aO ?aB ?aS ?aL ?_; (case aP => exact k95_mkM _ _ _ (⟨115, a0.extract (x5_1 : Int).toNat (t251 : Int).toNat⟩ : S95)); (case aB => exact (by repeat (first | (with_reducible first | exact HB.out | apply below_alloc | apply pw_below_drewN | apply below_drew1 | refine below_set ?_ GE238.out) | exact HB.out))); (case aF => exact (fun k_ hk => Kd.freshB (g := gb238) (o := .cells #[.int .u8 115, .string (a0.extract (x5_1 : Int).toNat (t251 : Int).toNat)] 95 (0, 0)) (by (with_reducible repeat first | refine blk_drewN ?_ _ | refine blk_alloc ?_ _); exact BK238.out) k_ hk)); (case aO => exact (by (with_reducible repeat (first | apply Kd.R_alloc | apply Kd.R_drewN | apply Kd.R_drew)); exact HO_4.out)); (case aS => exact (below_size (by repeat (first | (with_reducible first | exact HB.out | apply below_alloc | apply pw_below_drewN | apply below_drew1 | refine below_set ?_ GE238.out) | exact HB.out)))); (case aL => have := LMc39.out; omega); intro v253 w42 ho hb hg hat; rw [← Ny252.out] at ho; have n0_ := Aside0.mk (blk_grown (g := gb238) (o := .cells #[.int .u8 115, .string (a0.extract (x5_1 : Int).toNat (t251 : Int).toNat)] 95 (0, 0)) (by (with_reducible repeat first | refine blk_drewN ?_ _ | refine blk_alloc ?_ _); exact BK238.out) hg (Kd.R_away HO_4.out (fun _ hk => hk))); have n1_ := Aside0.mk (hb); have n2_ := Aside0.mk (ho); clear BK238; clear HB; clear HO_4; have BK238 := n0_; have HB := n1_; have HO254 := n2_; clear n0_ n1_ n2_; clear ho hb hg hat) | ((with_reducible refine gate_callee (f := 98) rfl ?_); refine goesL_ (some 70) rfl rfl Tryd.func98 (by kernel_rfl) rfl #[.string a0, .int .i64 t251] rfl (by (try simp only [List.map_toArray, List.map_cons, List.map_nil]); first | done | rfl) ?_; (with_reducible refine (postbagref2_skip.calls kj27 a0 t251 t255 _ A40.out).mono ?_); rintro e w' ⟨rfl, ⟨nd, rfl⟩⟩; refine ⟨_, rfl, ?_⟩))
               go_roundg kj27
               case measure => have := HK1.out; have := HJ27.out; omega
               case rel => exact ⟨(y252), (t255), (by first | rfl | (simp; done) | (simp [*]; done)), H', ⟨by have := HK1.out; have := HJ27.out; omega⟩, ⟨by (with_reducible repeat (first | apply Kd.R_alloc | apply Kd.R_drewN | apply Kd.R_drew)); exact Kd.R_mono HO254.out (fun _ hk => trivial)⟩, ⟨by repeat (first | (with_reducible first | exact HB.out | apply below_alloc | apply pw_below_drewN | apply below_drew1 | refine below_set ?_ GE238.out) | exact HB.out)⟩⟩
              ·rw [if_neg c39] at H
               exact absurd H (by simp)
             ·rw [if_neg c38] at H
              exact absurd H (by simp)
            ·rw [if_neg c37] at H
             exact absurd H (by simp)
           ·rw [if_neg c36] at H
            exact absurd H (by simp)
         ·replace c32 := Bool.eq_false_iff.mpr c32
          subst c32
          have H1 : (if (bt a0 x5_1) = 44 then (if 0 ≤ x5_1 then (if x5_1 ≤ (wrap64 (x5_1 + 1)) then (if (wrap64 (x5_1 + 1)) ≤ (a0.size : Int) then (if x4_1.length < 5864062014805 then ((postbagref2_skip.f kj27 a0 (wrap64 (x5_1 + 1))).bind fun t259 => (postbagref2_pieces.l0 kj27 a0 (x4_1 ++ [(⟨(bt a0 x5_1), a0.extract (x5_1 : Int).toNat ((wrap64 (x5_1 + 1)) : Int).toNat⟩ : S95)]) t259)) else (none)) else (none)) else (none)) else (none)) else (if (bt a0 x5_1) = 58 then (if 0 ≤ x5_1 then (if x5_1 ≤ (wrap64 (x5_1 + 1)) then (if (wrap64 (x5_1 + 1)) ≤ (a0.size : Int) then (if x4_1.length < 5864062014805 then ((postbagref2_skip.f kj27 a0 (wrap64 (x5_1 + 1))).bind fun t263 => (postbagref2_pieces.l0 kj27 a0 (x4_1 ++ [(⟨(bt a0 x5_1), a0.extract (x5_1 : Int).toNat ((wrap64 (x5_1 + 1)) : Int).toNat⟩ : S95)]) t263)) else (none)) else (none)) else (none)) else (none)) else (some (([] : List (S95)), false)))) = some (r1, r2) := by rw [if_neg (show ¬ (false = true) by decide)] at H; exact H
          clear H
          have H := H1
          clear H1
          by_cases c43 : (bt a0 x5_1) = 44
          ·rw [if_pos c43] at H
           have c43b0 : ((bt a0 x5_1) == 44) = true := beq_iff_eq.mpr c43
           have c43b1 : ((bt a0 x5_1) != 44) = false := bne_eq_false_iff_eq.mpr c43
           clear c43
           by_cases c44 : 0 ≤ x5_1
           ·rw [if_pos c44] at H
            have c44b0 := eq_true c44
            have c44b1 : decide (0 ≤ x5_1) = true := decide_eq_true c44
            clear c44
            by_cases c45 : x5_1 ≤ (wrap64 (x5_1 + 1))
            ·rw [if_pos c45] at H
             have c45b0 := eq_true c45
             have c45b1 : decide (x5_1 ≤ (wrap64 (x5_1 + 1))) = true := decide_eq_true c45
             by_cases c46 : (wrap64 (x5_1 + 1)) ≤ (a0.size : Int)
             ·rw [if_pos c46] at H
              have c46b0 := eq_true c46
              have c46b1 : decide ((wrap64 (x5_1 + 1)) ≤ (a0.size : Int)) = true := decide_eq_true c46
              by_cases c47 : x4_1.length < 5864062014805
              ·rw [if_pos c47] at H
               have LMc47 := Aside0.mk c47
               clear c47
               obtain ⟨y256, hy256⟩ : ∃ y_ : List (S95), y_ = (x4_1 ++ [(⟨(bt a0 x5_1), a0.extract (x5_1 : Int).toNat ((wrap64 (x5_1 + 1)) : Int).toNat⟩ : S95)]) := ⟨_, rfl⟩
               replace H : ((postbagref2_skip.f kj27 a0 (wrap64 (x5_1 + 1))).bind fun t259 => (postbagref2_pieces.l0 kj27 a0 y256 t259)) = some (r1, r2) := by first | (rw [hy256]; with_reducible exact H) | (have H2_ := (Option.bind_some _ _).symm.trans H; rw [hy256]; with_reducible exact H2_) | (have H2_ := (Option.bind_some _ _).symm.trans H; with_reducible exact H2_) | with_reducible exact H | (rw [hy256]; exact H) | exact H
               have Ny256 := Aside0.mk hy256
               clear hy256
               replace H := Option.bind_eq_some_iff.mp H
               obtain ⟨t259, A480, H⟩ := H
               replace H : (postbagref2_pieces.l0 kj27 a0 y256 t259) = some (r1, r2) := H
               have A48 := Aside0.mk A480
               clear A480
               have H' := Aside0.mk H
               clear H
               have hcz49_0 : wc.cell? ⟨gb238, 0, none⟩ = some (.int .u8 (bt a0 x5_1)) := (blk_cell BK238.out 0).trans rfl
               have hcz49_1 : wc.cell? ⟨gb238, 1, none⟩ = some (.string (⟨#[]⟩ : ByteArray)) := (blk_cell BK238.out 1).trans rfl
               have hfz49_0 := blk_frozen BK238.out 0
               have hfz49_1 := blk_frozen BK238.out 1
               go_upto_region 20 with (first | ((with_reducible refine gate_builtin (b := .append) (xs := #[.tmp 64, .tmp 66]) rfl ?_); at_builtin; refine Kd.R_append k95 (w0 := w) w.heap.size rfl (.tmp 64) (.tmp 66) 82 95 (.agg #[(.int .u8 0), (.string ⟨#[]⟩)]) 24 rfl Tryd.underlying82 info95 rfl (by decide) (by omega) u4 x4_1 (⟨(bt a0 x5_1), a0.extract (x5_1 : Int).toNat ((wrap64 (x5_1 + 1)) : Int).toNat⟩ : S95) [.int .u8 (bt a0 x5_1), .string (a0.extract (x5_1 : Int).toNat ((wrap64 (x5_1 + 1)) : Int).toNat)] (fun k_ => k_ ≠ gb238) (fun _ => False) rfl (by first | (go_simp; done) | (go_simp; rfl)) ?aP (fun _ hk => hk.elim) ?aF ?aO ?aB ?aS ?aL ?_; (case aP => exact k95_mkM _ _ _ (⟨(bt a0 x5_1), a0.extract (x5_1 : Int).toNat ((wrap64 (x5_1 + 1)) : Int).toNat⟩ : S95)); (case aB => exact (by repeat (first | (with_reducible first | exact HB.out | apply below_alloc | apply pw_below_drewN | apply below_drew1 | refine below_set ?_ GE238.out) | exact HB.out))); (case aF => exact (fun k_ hk => Kd.freshB (g := gb238) (o := .cells #[.int .u8 (bt a0 x5_1), .string (a0.extract (x5_1 : Int).toNat ((wrap64 (x5_1 + 1)) : Int).toNat)] 95 (0, 0)) (by (with_reducible repeat first | refine blk_drewN ?_ _ | refine blk_alloc ?_ _); refine blk_put (cs := #[.int .u8 (bt a0 x5_1), .string (⟨#[]⟩ : ByteArray)]) ?_ 1 _ rfl; (with_reducible repeat first | refine blk_drewN ?_ _ | refine blk_alloc ?_ _); exact BK238.out) k_ hk)); (case aO => exact (by (with_reducible repeat (first | apply Kd.R_alloc | apply Kd.R_drewN | apply Kd.R_drew)); exact Kd.R_mono (Kd.R_far (p := ⟨gb238, 1, none⟩) (Kd.R_mono HO_4.out (fun k_ hk => (⟨hk, hk⟩ : _ ∧ k_ ≠ gb238))) (fun _ hk => hk.2) (.string (a0.extract (x5_1 : Int).toNat ((wrap64 (x5_1 + 1)) : Int).toNat))) (fun _ hk => hk.1))); (case aS => exact (below_size (by repeat (first | (with_reducible first | exact HB.out | apply below_alloc | apply pw_below_drewN | apply below_drew1 | refine below_set ?_ GE238.out) | exact HB.out)))); (case aL => have := LMc47.out; omega); intro v257 w50 ho hb hg hat; rw [← Ny256.out] at ho; have n0_ := Aside0.mk (blk_grown (g := gb238) (o := .cells #[.int .u8 (bt a0 x5_1), .string (a0.extract (x5_1 : Int).toNat ((wrap64 (x5_1 + 1)) : Int).toNat)] 95 (0, 0)) (by (with_reducible repeat first | refine blk_drewN ?_ _ | refine blk_alloc ?_ _); refine blk_put (cs := #[.int .u8 (bt a0 x5_1), .string (⟨#[]⟩ : ByteArray)]) ?_ 1 _ rfl; (with_reducible repeat first | refine blk_drewN ?_ _ | refine blk_alloc ?_ _); exact BK238.out) hg (Kd.R_away HO_4.out (fun _ hk => hk))); have n1_ := Aside0.mk (hb); have n2_ := Aside0.mk (ho); clear BK238; clear HB; clear HO_4; have BK238 := n0_; have HB := n1_; have HO258 := n2_; clear n0_ n1_ n2_; clear ho hb hg hat) | ((with_reducible refine gate_callee (f := 98) rfl ?_); refine goesL_ (some 70) rfl rfl Tryd.func98 (by kernel_rfl) rfl #[.string a0, .int .i64 (wrap64 (x5_1 + 1))] rfl (by (try simp only [List.map_toArray, List.map_cons, List.map_nil]); first | done | rfl) ?_; (with_reducible refine (postbagref2_skip.calls kj27 a0 (wrap64 (x5_1 + 1)) t259 _ A48.out).mono ?_); rintro e w' ⟨rfl, ⟨nd, rfl⟩⟩; refine ⟨_, rfl, ?_⟩))
               go_upto_region 21 with fail
               generalize hq_ : World.setCell _ _ _ = wy
               have n0_ : Aside0 (wy.heap[gb238]? = some (.cells #[.int .u8 (bt a0 x5_1), .string (a0.extract (x5_1 : Int).toNat ((wrap64 (x5_1 + 1)) : Int).toNat)] 95 (0, 0))) := ⟨by rw [← hq_]; (with_reducible repeat first | refine blk_drewN ?_ _ | refine blk_alloc ?_ _); refine blk_put (cs := #[.int .u8 (bt a0 x5_1), .string (⟨#[]⟩ : ByteArray)]) ?_ 1 _ rfl; exact BK238.out⟩
               have n1_ : Aside0 (Below w.heap.size w wy) := ⟨by rw [← hq_]; exact (by repeat (first | (with_reducible first | exact HB.out | apply below_alloc | apply pw_below_drewN | apply below_drew1 | refine below_set ?_ GE238.out) | exact HB.out))⟩
               have n2_ : Aside0 (Kd.R k95 95 wy w.heap.size (fun k_ => k_ ≠ gb238) u4 x4_1) := ⟨by rw [← hq_]; (with_reducible repeat (first | apply Kd.R_alloc | apply Kd.R_drewN | apply Kd.R_drew)); exact Kd.R_mono (Kd.R_far (p := ⟨gb238, 1, none⟩) (Kd.R_mono HO_4.out (fun k_ hk => (⟨hk, hk⟩ : _ ∧ k_ ≠ gb238))) (fun _ hk => hk.2) (.string (a0.extract (x5_1 : Int).toNat ((wrap64 (x5_1 + 1)) : Int).toNat))) (fun _ hk => hk.1)⟩
               clear BK238 HB HO_4 hq_
               have BK238 := n0_; have HB := n1_; have HO_4 := n2_; clear n0_ n1_ n2_
               have ky0_ : wy.cell? ⟨gb238, 0, none⟩ = some (.int .u8 (bt a0 x5_1)) := (blk_cell BK238.out 0).trans rfl
               have ky1_ : wy.cell? ⟨gb238, 1, none⟩ = some (.string (a0.extract (x5_1 : Int).toNat ((wrap64 (x5_1 + 1)) : Int).toNat)) := (blk_cell BK238.out 1).trans rfl
               go_wp2_with (first | ((with_reducible refine gate_builtin (b := .append) (xs := #[.tmp 64, .tmp 66]) rfl ?_); at_builtin; refine Kd.R_append k95 (w0 := w) w.heap.size rfl (.tmp 64) (.tmp 66) 82 95 (.agg #[(.int .u8 0), (.string ⟨#[]⟩)]) 24 rfl Tryd.underlying82 info95 rfl (by decide) (by omega) u4 x4_1 (⟨(bt a0 x5_1), a0.extract (x5_1 : Int).toNat ((wrap64 (x5_1 + 1)) : Int).toNat⟩ : S95) [.int .u8 (bt a0 x5_1), .string (a0.extract (x5_1 : Int).toNat ((wrap64 (x5_1 + 1)) : Int).toNat)] (fun k_ => k_ ≠ gb238) (fun _ => False) rfl (by first | (go_simp; done) | (go_simp; rfl)) ?aP (fun _ hk => hk.elim) ?aF ?aO ?aB ?aS ?aL ?_; (case aP => exact k95_mkM _ _ _ (⟨(bt a0 x5_1), a0.extract (x5_1 : Int).toNat ((wrap64 (x5_1 + 1)) : Int).toNat⟩ : S95)); (case aB => exact (by repeat (first | (with_reducible first | exact HB.out | apply below_alloc | apply pw_below_drewN | apply below_drew1 | refine below_set ?_ GE238.out) | exact HB.out))); (case aF => exact (fun k_ hk => Kd.freshB (g := gb238) (o := .cells #[.int .u8 (bt a0 x5_1), .string (a0.extract (x5_1 : Int).toNat ((wrap64 (x5_1 + 1)) : Int).toNat)] 95 (0, 0)) (by (with_reducible repeat first | refine blk_drewN ?_ _ | refine blk_alloc ?_ _); exact BK238.out) k_ hk)); (case aO => exact (by (with_reducible repeat (first | apply Kd.R_alloc | apply Kd.R_drewN | apply Kd.R_drew)); exact HO_4.out)); (case aS => exact (below_size (by repeat (first | (with_reducible first | exact HB.out | apply below_alloc | apply pw_below_drewN | apply below_drew1 | refine below_set ?_ GE238.out) | exact HB.out)))); (case aL => have := LMc47.out; omega); intro v257 w50 ho hb hg hat; rw [← Ny256.out] at ho; have n0_ := Aside0.mk (blk_grown (g := gb238) (o := .cells #[.int .u8 (bt a0 x5_1), .string (a0.extract (x5_1 : Int).toNat ((wrap64 (x5_1 + 1)) : Int).toNat)] 95 (0, 0)) (by (with_reducible repeat first | refine blk_drewN ?_ _ | refine blk_alloc ?_ _); exact BK238.out) hg (Kd.R_away HO_4.out (fun _ hk => hk))); have n1_ := Aside0.mk (hb); have n2_ := Aside0.mk (ho); clear BK238; clear HB; clear HO_4; have BK238 := n0_; have HB := n1_; have HO258 := n2_; clear n0_ n1_ n2_; clear ho hb hg hat) | ((with_reducible refine gate_callee (f := 98) rfl ?_); refine goesL_ (some 70) rfl rfl Tryd.func98 (by kernel_rfl) rfl #[.string a0, .int .i64 (wrap64 (x5_1 + 1))] rfl (by (try simp only [List.map_toArray, List.map_cons, List.map_nil]); first | done | rfl) ?_; (with_reducible refine (postbagref2_skip.calls kj27 a0 (wrap64 (x5_1 + 1)) t259 _ A48.out).mono ?_); rintro e w' ⟨rfl, ⟨nd, rfl⟩⟩; refine ⟨_, rfl, ?_⟩))
               go_roundg kj27
               case measure => have := HK1.out; have := HJ27.out; omega
               case rel => exact ⟨(y256), (t259), (by first | rfl | (simp; done) | (simp [*]; done)), H', ⟨by have := HK1.out; have := HJ27.out; omega⟩, ⟨by (with_reducible repeat (first | apply Kd.R_alloc | apply Kd.R_drewN | apply Kd.R_drew)); exact Kd.R_mono HO258.out (fun _ hk => trivial)⟩, ⟨by repeat (first | (with_reducible first | exact HB.out | apply below_alloc | apply pw_below_drewN | apply below_drew1 | refine below_set ?_ GE238.out) | exact HB.out)⟩⟩
              ·rw [if_neg c47] at H
               exact absurd H (by simp)
             ·rw [if_neg c46] at H
              exact absurd H (by simp)
            ·rw [if_neg c45] at H
             exact absurd H (by simp)
           ·rw [if_neg c44] at H
            exact absurd H (by simp)
          ·rw [if_neg c43] at H
           have c43b0 : ((bt a0 x5_1) == 44) = false := beq_eq_false_iff_ne.mpr c43
           have c43b1 : ((bt a0 x5_1) != 44) = true := bne_iff_ne.mpr c43
           by_cases c51 : (bt a0 x5_1) = 58
           ·rw [if_pos c51] at H
            have c51b0 : ((bt a0 x5_1) == 58) = true := beq_iff_eq.mpr c51
            have c51b1 : ((bt a0 x5_1) != 58) = false := bne_eq_false_iff_eq.mpr c51
            clear c51
            by_cases c52 : 0 ≤ x5_1
            ·rw [if_pos c52] at H
             have c52b0 := eq_true c52
             have c52b1 : decide (0 ≤ x5_1) = true := decide_eq_true c52
             clear c52
             by_cases c53 : x5_1 ≤ (wrap64 (x5_1 + 1))
             ·rw [if_pos c53] at H
              have c53b0 := eq_true c53
              have c53b1 : decide (x5_1 ≤ (wrap64 (x5_1 + 1))) = true := decide_eq_true c53
              by_cases c54 : (wrap64 (x5_1 + 1)) ≤ (a0.size : Int)
              ·rw [if_pos c54] at H
               have c54b0 := eq_true c54
               have c54b1 : decide ((wrap64 (x5_1 + 1)) ≤ (a0.size : Int)) = true := decide_eq_true c54
               by_cases c55 : x4_1.length < 5864062014805
               ·rw [if_pos c55] at H
                have LMc55 := Aside0.mk c55
                clear c55
                obtain ⟨y260, hy260⟩ : ∃ y_ : List (S95), y_ = (x4_1 ++ [(⟨(bt a0 x5_1), a0.extract (x5_1 : Int).toNat ((wrap64 (x5_1 + 1)) : Int).toNat⟩ : S95)]) := ⟨_, rfl⟩
                replace H : ((postbagref2_skip.f kj27 a0 (wrap64 (x5_1 + 1))).bind fun t263 => (postbagref2_pieces.l0 kj27 a0 y260 t263)) = some (r1, r2) := by first | (rw [hy260]; with_reducible exact H) | (have H2_ := (Option.bind_some _ _).symm.trans H; rw [hy260]; with_reducible exact H2_) | (have H2_ := (Option.bind_some _ _).symm.trans H; with_reducible exact H2_) | with_reducible exact H | (rw [hy260]; exact H) | exact H
                have Ny260 := Aside0.mk hy260
                clear hy260
                replace H := Option.bind_eq_some_iff.mp H
                obtain ⟨t263, A560, H⟩ := H
                replace H : (postbagref2_pieces.l0 kj27 a0 y260 t263) = some (r1, r2) := H
                have A56 := Aside0.mk A560
                clear A560
                have H' := Aside0.mk H
                clear H
                have hcz57_0 : wc.cell? ⟨gb238, 0, none⟩ = some (.int .u8 (bt a0 x5_1)) := (blk_cell BK238.out 0).trans rfl
                have hcz57_1 : wc.cell? ⟨gb238, 1, none⟩ = some (.string (⟨#[]⟩ : ByteArray)) := (blk_cell BK238.out 1).trans rfl
                have hfz57_0 := blk_frozen BK238.out 0
                have hfz57_1 := blk_frozen BK238.out 1
                go_upto_region 20 with (first | ((with_reducible refine gate_builtin (b := .append) (xs := #[.tmp 64, .tmp 66]) rfl ?_); at_builtin; refine Kd.R_append k95 (w0 := w) w.heap.size rfl (.tmp 64) (.tmp 66) 82 95 (.agg #[(.int .u8 0), (.string ⟨#[]⟩)]) 24 rfl Tryd.underlying82 info95 rfl (by decide) (by omega) u4 x4_1 (⟨(bt a0 x5_1), a0.extract (x5_1 : Int).toNat ((wrap64 (x5_1 + 1)) : Int).toNat⟩ : S95) [.int .u8 (bt a0 x5_1), .string (a0.extract (x5_1 : Int).toNat ((wrap64 (x5_1 + 1)) : Int).toNat)] (fun k_ => k_ ≠ gb238) (fun _ => False) rfl (by first | (go_simp; done) | (go_simp; rfl)) ?aP (fun _ hk => hk.elim) ?aF ?aO ?aB ?aS ?aL ?_; (case aP => exact k95_mkM _ _ _ (⟨(bt a0 x5_1), a0.extract (x5_1 : Int).toNat ((wrap64 (x5_1 + 1)) : Int).toNat⟩ : S95)); (case aB => exact (by repeat (first | (with_reducible first | exact HB.out | apply below_alloc | apply pw_below_drewN | apply below_drew1 | refine below_set ?_ GE238.out) | exact HB.out))); (case aF => exact (fun k_ hk => Kd.freshB (g := gb238) (o := .cells #[.int .u8 (bt a0 x5_1), .string (a0.extract (x5_1 : Int).toNat ((wrap64 (x5_1 + 1)) : Int).toNat)] 95 (0, 0)) (by (with_reducible repeat first | refine blk_drewN ?_ _ | refine blk_alloc ?_ _); refine blk_put (cs := #[.int .u8 (bt a0 x5_1), .string (⟨#[]⟩ : ByteArray)]) ?_ 1 _ rfl; (with_reducible repeat first | refine blk_drewN ?_ _ | refine blk_alloc ?_ _); exact BK238.out) k_ hk)); (case aO => exact (by (with_reducible repeat (first | apply Kd.R_alloc | apply Kd.R_drewN | apply Kd.R_drew)); exact Kd.R_mono (Kd.R_far (p := ⟨gb238, 1, none⟩) (Kd.R_mono HO_4.out (fun k_ hk => (⟨hk, hk⟩ : _ ∧ k_ ≠ gb238))) (fun _ hk => hk.2) (.string (a0.extract (x5_1 : Int).toNat ((wrap64 (x5_1 + 1)) : Int).toNat))) (fun _ hk => hk.1))); (case aS => exact (below_size (by repeat (first | (with_reducible first | exact HB.out | apply below_alloc | apply pw_below_drewN | apply below_drew1 | refine below_set ?_ GE238.out) | exact HB.out)))); (case aL => have := LMc55.out; omega); intro v261 w58 ho hb hg hat; rw [← Ny260.out] at ho; have n0_ := Aside0.mk (blk_grown (g := gb238) (o := .cells #[.int .u8 (bt a0 x5_1), .string (a0.extract (x5_1 : Int).toNat ((wrap64 (x5_1 + 1)) : Int).toNat)] 95 (0, 0)) (by (with_reducible repeat first | refine blk_drewN ?_ _ | refine blk_alloc ?_ _); refine blk_put (cs := #[.int .u8 (bt a0 x5_1), .string (⟨#[]⟩ : ByteArray)]) ?_ 1 _ rfl; (with_reducible repeat first | refine blk_drewN ?_ _ | refine blk_alloc ?_ _); exact BK238.out) hg (Kd.R_away HO_4.out (fun _ hk => hk))); have n1_ := Aside0.mk (hb); have n2_ := Aside0.mk (ho); clear BK238; clear HB; clear HO_4; have BK238 := n0_; have HB := n1_; have HO262 := n2_; clear n0_ n1_ n2_; clear ho hb hg hat) | ((with_reducible refine gate_callee (f := 98) rfl ?_); refine goesL_ (some 70) rfl rfl Tryd.func98 (by kernel_rfl) rfl #[.string a0, .int .i64 (wrap64 (x5_1 + 1))] rfl (by (try simp only [List.map_toArray, List.map_cons, List.map_nil]); first | done | rfl) ?_; (with_reducible refine (postbagref2_skip.calls kj27 a0 (wrap64 (x5_1 + 1)) t263 _ A56.out).mono ?_); rintro e w' ⟨rfl, ⟨nd, rfl⟩⟩; refine ⟨_, rfl, ?_⟩))
                go_upto_region 21 with fail
                generalize hq_ : World.setCell _ _ _ = wy
                have n0_ : Aside0 (wy.heap[gb238]? = some (.cells #[.int .u8 (bt a0 x5_1), .string (a0.extract (x5_1 : Int).toNat ((wrap64 (x5_1 + 1)) : Int).toNat)] 95 (0, 0))) := ⟨by rw [← hq_]; (with_reducible repeat first | refine blk_drewN ?_ _ | refine blk_alloc ?_ _); refine blk_put (cs := #[.int .u8 (bt a0 x5_1), .string (⟨#[]⟩ : ByteArray)]) ?_ 1 _ rfl; exact BK238.out⟩
                have n1_ : Aside0 (Below w.heap.size w wy) := ⟨by rw [← hq_]; exact (by repeat (first | (with_reducible first | exact HB.out | apply below_alloc | apply pw_below_drewN | apply below_drew1 | refine below_set ?_ GE238.out) | exact HB.out))⟩
                have n2_ : Aside0 (Kd.R k95 95 wy w.heap.size (fun k_ => k_ ≠ gb238) u4 x4_1) := ⟨by rw [← hq_]; (with_reducible repeat (first | apply Kd.R_alloc | apply Kd.R_drewN | apply Kd.R_drew)); exact Kd.R_mono (Kd.R_far (p := ⟨gb238, 1, none⟩) (Kd.R_mono HO_4.out (fun k_ hk => (⟨hk, hk⟩ : _ ∧ k_ ≠ gb238))) (fun _ hk => hk.2) (.string (a0.extract (x5_1 : Int).toNat ((wrap64 (x5_1 + 1)) : Int).toNat))) (fun _ hk => hk.1)⟩
                clear BK238 HB HO_4 hq_
                have BK238 := n0_; have HB := n1_; have HO_4 := n2_; clear n0_ n1_ n2_
                have ky0_ : wy.cell? ⟨gb238, 0, none⟩ = some (.int .u8 (bt a0 x5_1)) := (blk_cell BK238.out 0).trans rfl
                have ky1_ : wy.cell? ⟨gb238, 1, none⟩ = some (.string (a0.extract (x5_1 : Int).toNat ((wrap64 (x5_1 + 1)) : Int).toNat)) := (blk_cell BK238.out 1).trans rfl
                go_wp2_with (first | ((with_reducible refine gate_builtin (b := .append) (xs := #[.tmp 64, .tmp 66]) rfl ?_); at_builtin; refine Kd.R_append k95 (w0 := w) w.heap.size rfl (.tmp 64) (.tmp 66) 82 95 (.agg #[(.int .u8 0), (.string ⟨#[]⟩)]) 24 rfl Tryd.underlying82 info95 rfl (by decide) (by omega) u4 x4_1 (⟨(bt a0 x5_1), a0.extract (x5_1 : Int).toNat ((wrap64 (x5_1 + 1)) : Int).toNat⟩ : S95) [.int .u8 (bt a0 x5_1), .string (a0.extract (x5_1 : Int).toNat ((wrap64 (x5_1 + 1)) : Int).toNat)] (fun k_ => k_ ≠ gb238) (fun _ => False) rfl (by first | (go_simp; done) | (go_simp; rfl)) ?aP (fun _ hk => hk.elim) ?aF ?aO ?aB ?aS ?aL ?_; (case aP => exact k95_mkM _ _ _ (⟨(bt a0 x5_1), a0.extract (x5_1 : Int).toNat ((wrap64 (x5_1 + 1)) : Int).toNat⟩ : S95)); (case aB => exact (by repeat (first | (with_reducible first | exact HB.out | apply below_alloc | apply pw_below_drewN | apply below_drew1 | refine below_set ?_ GE238.out) | exact HB.out))); (case aF => exact (fun k_ hk => Kd.freshB (g := gb238) (o := .cells #[.int .u8 (bt a0 x5_1), .string (a0.extract (x5_1 : Int).toNat ((wrap64 (x5_1 + 1)) : Int).toNat)] 95 (0, 0)) (by (with_reducible repeat first | refine blk_drewN ?_ _ | refine blk_alloc ?_ _); exact BK238.out) k_ hk)); (case aO => exact (by (with_reducible repeat (first | apply Kd.R_alloc | apply Kd.R_drewN | apply Kd.R_drew)); exact HO_4.out)); (case aS => exact (below_size (by repeat (first | (with_reducible first | exact HB.out | apply below_alloc | apply pw_below_drewN | apply below_drew1 | refine below_set ?_ GE238.out) | exact HB.out)))); (case aL => have := LMc55.out; omega); intro v261 w58 ho hb hg hat; rw [← Ny260.out] at ho; have n0_ := Aside0.mk (blk_grown (g := gb238) (o := .cells #[.int .u8 (bt a0 x5_1), .string (a0.extract (x5_1 : Int).toNat ((wrap64 (x5_1 + 1)) : Int).toNat)] 95 (0, 0)) (by (with_reducible repeat first | refine blk_drewN ?_ _ | refine blk_alloc ?_ _); exact BK238.out) hg (Kd.R_away HO_4.out (fun _ hk => hk))); have n1_ := Aside0.mk (hb); have n2_ := Aside0.mk (ho); clear BK238; clear HB; clear HO_4; have BK238 := n0_; have HB := n1_; have HO262 := n2_; clear n0_ n1_ n2_; clear ho hb hg hat) | ((with_reducible refine gate_callee (f := 98) rfl ?_); refine goesL_ (some 70) rfl rfl Tryd.func98 (by kernel_rfl) rfl #[.string a0, .int .i64 (wrap64 (x5_1 + 1))] rfl (by (try simp only [List.map_toArray, List.map_cons, List.map_nil]); first | done | rfl) ?_; (with_reducible refine (postbagref2_skip.calls kj27 a0 (wrap64 (x5_1 + 1)) t263 _ A56.out).mono ?_); rintro e w' ⟨rfl, ⟨nd, rfl⟩⟩; refine ⟨_, rfl, ?_⟩))
                go_roundg kj27
                case measure => have := HK1.out; have := HJ27.out; omega
                case rel => exact ⟨(y260), (t263), (by first | rfl | (simp; done) | (simp [*]; done)), H', ⟨by have := HK1.out; have := HJ27.out; omega⟩, ⟨by (with_reducible repeat (first | apply Kd.R_alloc | apply Kd.R_drewN | apply Kd.R_drew)); exact Kd.R_mono HO262.out (fun _ hk => trivial)⟩, ⟨by repeat (first | (with_reducible first | exact HB.out | apply below_alloc | apply pw_below_drewN | apply below_drew1 | refine below_set ?_ GE238.out) | exact HB.out)⟩⟩
               ·rw [if_neg c55] at H
                exact absurd H (by simp)
              ·rw [if_neg c54] at H
               exact absurd H (by simp)
             ·rw [if_neg c53] at H
              exact absurd H (by simp)
            ·rw [if_neg c52] at H
             exact absurd H (by simp)
           ·rw [if_neg c51] at H
            have c51b0 : ((bt a0 x5_1) == 58) = false := beq_eq_false_iff_ne.mpr c51
            have c51b1 : ((bt a0 x5_1) != 58) = true := bne_iff_ne.mpr c51
            simp only [Option.some.injEq, Prod.mk.injEq] at H
            obtain ⟨rfl, rfl⟩ := H
            go_wp2
            go_ret2
            exact ⟨_, by first | rfl | (simp [errW_none, errW_some] <;> rfl) | (simp [*, errW_none, errW_some] <;> rfl), Kd.R_nil _ _ _ _ _, by repeat (first | (with_reducible first | exact HB.out | apply below_alloc | apply pw_below_drewN | apply below_drew1 | refine below_set ?_ GE238.out) | exact HB.out)⟩
    ·rw [if_neg c4] at H
     exact absurd H (by simp)
   ·rw [if_neg c3] at H
    have c3b0 : decide (x5_1 < (a0.size : Int)) = false := decide_eq_false c3
    clear c3
    simp only [Option.some.injEq, Prod.mk.injEq] at H
    obtain ⟨rfl, rfl⟩ := H
    go_wp2
    go_ret2
    exact ⟨_, by first | rfl | (simp [errW_none, errW_some] <;> rfl) | (simp [*, errW_none, errW_some] <;> rfl), by (with_reducible repeat (first | apply Kd.R_alloc | apply Kd.R_drewN | apply Kd.R_drew)); exact HO_4.out, by repeat (first | (with_reducible first | exact HB.out | apply below_alloc | apply pw_below_drewN | apply below_drew1) | exact HB.out)⟩
end Go.Proofs.YtjlchnmpebdggaaDoor.Mo
end
