/- CheckLoss. -/
import Derived.Test.YtjekioabkmijbaaGreatDoorZ07
import Derived.Test.YtjekioabkmijbaaGreatDoorZ06
set_option linter.unusedVariables false
set_option linter.unusedSimpArgs false
namespace Go.Proofs.YtjekioabkmijbaaGreatDoor
open Go.RowKit
theorem lossOk_eq (s : DSea) (x : DLoss) : lossOk s x = (inB x.id 1 20 && rangeOk x.cl x.ch 0 (s.cells - 1) && rangeOk x.bl x.bh 1 s.bands && rangeOk x.hl x.hh 0 1000000) := by
  unfold lossOk inB
  congr 3
  rw [Bool.decide_and]
set_option maxHeartbeats 2000000 in
set_option maxRecDepth 20000 in
theorem checkLoss_calls (s : DSea) (vh vt : Value) (x : DLoss) (w : World) (h1 : Sl intCs 1 w vh s.hts) (h2 : Sl DTide.cs 2 w vt s.tds) :
    Calls Tryz.prog 66 #[.agg #[iv s.cells, iv s.bands, vh, vt], lossV x] w fun e w' => e = .returned (iv (errLoss s x)) ∧ Below w.heap.size w w' := by
  have hb0 : Below w.heap.size w ((w.alloc (.cells #[iv s.cells, iv s.bands, vh, vt] 25)).alloc (.cells (lossA x) 30)) := bl_alloc (bl_alloc (Below.refl _ _) _) _
  have HC := Lib.hid (checkSea_calls s vh vt _ (h1.below hb0) (h2.below hb0))
  have HB0 := Lib.hid hb0
  have HE : Hid (errLoss s x = if seaOk s && lossOk s x then 0 else 1) := rfl
  clear h1 h2 hb0
  cases hs : seaOk s with
  | false =>
    have he : errSea s = 1 := by unfold errSea; rw [hs]; rfl
    rw [he] at HC
    rw [hs] at HE
    clear he hs
    go_enter Tryz.func66, Tryz.ntmps66
    go_wp2_with fail
    refine HC.out.mono ?_
    rintro e w1 ⟨rfl, hb1⟩
    have HB1 := Lib.hid hb1
    clear hb1
    go_wp2_with fail
    exact bodyPost_ret (v := iv (errLoss s x)) (by rw [HE.out]; simp [results, Tryz.results66, go_sem]) rfl ⟨rfl, bl_step HB0.out HB1.out⟩
  | true =>
    have he : errSea s = 0 := by unfold errSea; rw [hs]; rfl
    have hsb := seaOk_bounds hs
    rw [he] at HC
    rw [hs] at HE
    rw [lossOk_eq] at HE
    have ec : IntKind.i64.wrap (s.cells - 1) = s.cells - 1 := IntWalk.i64_in _ ⟨by omega, by omega⟩
    clear he hs
    go_enter Tryz.func66, Tryz.ntmps66
    go_wp2_with fail
    refine HC.out.mono ?_
    rintro e w1 ⟨rfl, hb1⟩
    have HB1 := Lib.hid (bl_step HB0.out hb1)
    have g0 := blk_below (blk_alloc (blk_new w (.cells #[iv s.cells, iv s.bands, vh, vt] 25)) (.cells (lossA x) 30)) hb1
    have g1 := blk_below (blk_at (w := w.alloc (.cells #[iv s.cells, iv s.bands, vh, vt] 25)) (.cells (lossA x) 30) (show w.heap.size + 1 = _ by simp)) hb1
    have c0 := blk_cell g0 0
    have c1 := blk_cell g0 1
    have d0 := blk_cell g1 0
    have d1 := blk_cell g1 1
    have d2 := blk_cell g1 2
    have d3 := blk_cell g1 3
    have d4 := blk_cell g1 4
    have d5 := blk_cell g1 5
    have d6 := blk_cell g1 6
    simp only [List.getElem?_toArray, List.getElem?_cons_zero, List.getElem?_cons_succ] at c0 c1 d0 d1 d2 d3 d4 d5 d6
    have G0 := Lib.hid g0
    have G1 := Lib.hid g1
    clear hb1 g0 g1
    cases e1 : inB x.id 1 20 with
    | false =>
      rw [e1] at HE
      go_wp2_with (go_at_call 101; refine (in_calls _ _ _ _).mono ?_; rintro e w' ⟨rfl, rfl⟩)
      exact bodyPost_ret (v := iv (errLoss s x)) (by rw [HE.out]; simp [results, Tryz.results66, go_sem]) rfl ⟨rfl, HB1.out⟩
    | true =>
      rw [e1] at HE
      go_wp2_with (go_at_call 101; refine (in_calls _ _ _ _).mono ?_; rintro e w' ⟨rfl, rfl⟩)
      refine (valid_calls _ _ _ _ w1).mono ?_
      rintro e w2 ⟨rfl, hb2⟩
      have HB2 := Lib.hid (bl_step HB1.out hb2)
      have G0_2 := Lib.hid (blk_below G0.out hb2)
      have G1_2 := Lib.hid (blk_below G1.out hb2)
      clear hb2 c0 c1 d0 d1 d2 d3 d4 d5 d6
      have c0 := blk_cell G0_2.out 0
      have c1 := blk_cell G0_2.out 1
      have d0 := blk_cell G1_2.out 0
      have d1 := blk_cell G1_2.out 1
      have d2 := blk_cell G1_2.out 2
      have d3 := blk_cell G1_2.out 3
      have d4 := blk_cell G1_2.out 4
      have d5 := blk_cell G1_2.out 5
      have d6 := blk_cell G1_2.out 6
      simp only [List.getElem?_toArray, List.getElem?_cons_zero, List.getElem?_cons_succ] at c0 c1 d0 d1 d2 d3 d4 d5 d6
      cases e2 : rangeOk x.cl x.ch 0 (s.cells - 1) with
      | false =>
        rw [e2] at HE
        go_wp2_with fail
        exact bodyPost_ret (v := iv (errLoss s x)) (by rw [HE.out]; simp [results, Tryz.results66, go_sem]) rfl ⟨rfl, HB2.out⟩
      | true =>
      rw [e2] at HE
      go_wp2_with fail
      refine (valid_calls _ _ _ _ w2).mono ?_
      rintro e w3 ⟨rfl, hb3⟩
      have HB3 := Lib.hid (bl_step HB2.out hb3)
      have G0_3 := Lib.hid (blk_below G0_2.out hb3)
      have G1_3 := Lib.hid (blk_below G1_2.out hb3)
      clear hb3 c0 c1 d0 d1 d2 d3 d4 d5 d6
      have c0 := blk_cell G0_3.out 0
      have c1 := blk_cell G0_3.out 1
      have d0 := blk_cell G1_3.out 0
      have d1 := blk_cell G1_3.out 1
      have d2 := blk_cell G1_3.out 2
      have d3 := blk_cell G1_3.out 3
      have d4 := blk_cell G1_3.out 4
      have d5 := blk_cell G1_3.out 5
      have d6 := blk_cell G1_3.out 6
      simp only [List.getElem?_toArray, List.getElem?_cons_zero, List.getElem?_cons_succ] at c0 c1 d0 d1 d2 d3 d4 d5 d6
      cases e3 : rangeOk x.bl x.bh 1 s.bands with
      | false =>
        rw [e3] at HE
        go_wp2_with fail
        exact bodyPost_ret (v := iv (errLoss s x)) (by rw [HE.out]; simp [results, Tryz.results66, go_sem]) rfl ⟨rfl, HB3.out⟩
      | true =>
      rw [e3] at HE
      go_wp2_with fail
      refine (valid_calls _ _ _ _ w3).mono ?_
      rintro e w4 ⟨rfl, hb4⟩
      have HB4 := Lib.hid (bl_step HB3.out hb4)
      have G0_4 := Lib.hid (blk_below G0_3.out hb4)
      have G1_4 := Lib.hid (blk_below G1_3.out hb4)
      clear hb4 c0 c1 d0 d1 d2 d3 d4 d5 d6
      have c0 := blk_cell G0_4.out 0
      have c1 := blk_cell G0_4.out 1
      have d0 := blk_cell G1_4.out 0
      have d1 := blk_cell G1_4.out 1
      have d2 := blk_cell G1_4.out 2
      have d3 := blk_cell G1_4.out 3
      have d4 := blk_cell G1_4.out 4
      have d5 := blk_cell G1_4.out 5
      have d6 := blk_cell G1_4.out 6
      simp only [List.getElem?_toArray, List.getElem?_cons_zero, List.getElem?_cons_succ] at c0 c1 d0 d1 d2 d3 d4 d5 d6
      cases e4 : rangeOk x.hl x.hh 0 1000000 with
      | false =>
        rw [e4] at HE
        go_wp2_with fail
        exact bodyPost_ret (v := iv (errLoss s x)) (by rw [HE.out]; simp [results, Tryz.results66, go_sem]) rfl ⟨rfl, HB4.out⟩
      | true =>
      rw [e4] at HE
      go_wp2_with fail
      exact bodyPost_ret (v := iv (errLoss s x)) (by rw [HE.out]; simp [results, Tryz.results66, go_sem]) rfl ⟨rfl, HB4.out⟩
end Go.Proofs.YtjekioabkmijbaaGreatDoor
