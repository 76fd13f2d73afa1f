/- The law DriftReaches. -/
import Derived.Test.YtjekioabkmijbaaGreatDoorZ36
import Derived.Test.YtjekioabkmijbaaGreatDoorZ47
set_option linter.unusedVariables false
set_option linter.unusedSimpArgs false
namespace Go.Proofs.YtjekioabkmijbaaGreatDoor
open Go.RowKit
theorem reachL_len (s : DSea) (l : List DWind) (known f : Int) (x : DLoss) (h : Int) : (reachL s l known f x h).length ≤ 320 := by
  unfold reachL; split
  · exact places_len _
  · simp
theorem beachL_len (s : DSea) (l : List DWind) (known f : Int) (x : DLoss) (h : Int) : (beachL s l known f x h).length ≤ 320 := Nat.le_trans (beachOf_len _) (reachL_len _ _ _ _ _ _)
theorem landL_len (s : DSea) (l : List DWind) (known f : Int) (x : DLoss) (h : Int) : (landL s l known f x h).length ≤ 40 := by
  unfold landL; split
  · rename_i he
    have hb := seaOk_bounds (ask_facts he).sea
    unfold landOf
    refine Nat.le_trans (List.length_filterMap_le _ _) ?_
    simp [ints, pfx]; omega
  · simp
set_option maxHeartbeats 8000000 in
set_option maxRecDepth 20000 in
theorem reaches_calls (s : DSea) (l : List DWind) (known : Int) (x : DLoss) (f hour : Int) (vh vt vl : Value) (w : World) (hE : Env w) (hf : 0 ≤ f ∧ f ≤ 255) (h1 : Sl intCs 1 w vh s.hts) (h2 : Sl DTide.cs 2 w vt s.tds) (h3 : Sl DWind.cs 9 w vl l) :
    Calls Tryz.prog 3 #[.agg #[iv s.cells, iv s.bands, vh, vt], vl, iv known, lossV x, .int .u8 f, iv hour] w fun e w' => LawTrue w e w' := by
  obtain ⟨A1, k1, rfl, hk1, hlk1⟩ := h1.open_
  obtain ⟨A2, k2, rfl, hk2, hlk2⟩ := h2.open_
  obtain ⟨A3, k3, rfl, hc3, hl3⟩ := h3.open_
  have HS1 := Lib.hid h1
  have HS2 := Lib.hid h2
  have HS3 := Lib.hid h3
  have HEN := Lib.hid hE
  clear h1 h2 h3 hE
  go_enter Tryz.func3, Tryz.ntmps3
  go_wp2_with fail
  refine calls_abs (fun W hW => ?_)
  have hB : Below w.heap.size w W := by rw [hW]; exact bl_alloc (bl_alloc (Below.refl _ _) _) _
  have HG0 : Hid (Seas s l w.heap.size A1 k1 A2 k2 A3 k3 W) := ⟨by rw [hW]; exact blk_alloc (blk_new _ _) _, HS1.out.below hB, HS2.out.below hB, HS3.out.below hB⟩
  have G0 : Hid (W.heap[w.heap.size + 1]? = some (.cells (lossA x) 30 (0, 0))) := by unfold Hid; rw [hW]; exact blk_at _ (by simp)
  have HB0 := Lib.hid hB
  clear hW HS1 HS2 HS3 hB
  obtain ⟨b0, hb0⟩ : ∃ q, q = w.heap.size := ⟨_, rfl⟩
  obtain ⟨b2, hb2⟩ : ∃ q, q = w.heap.size + 1 := ⟨_, rfl⟩
  rw [← hb2] at G0 ⊢
  rw [← hb0] at HG0 ⊢
  clear hb0 hb2
  refine (small_calls s l _ _ _ W HG0.out.2.1 HG0.out.2.2.1 HG0.out.2.2.2).mono ?_
  rintro e w1 ⟨⟨b, rfl⟩, hb⟩
  have HB1 := Lib.hid (bl_step HB0.out hb)
  have HG1 := Lib.hid (HG0.out.below hb)
  have G1 := Lib.hid (blk_below G0.out hb)
  clear hb G0 HG0 HB0
  cases b with
  | false =>
    go_wp2_with fail
    refine (drifting_calls _ (HEN.out.below HB1.out)).mono ?_
    rintro e w2 ⟨rfl, hb⟩
    have HB2 := Lib.hid (bl_step HB1.out hb)
    clear hb
    go_wp2_with fail
    exact bodyPost_ret (v := .bool true) (by simp [results, Tryz.results3, go_sem]) rfl ⟨rfl, HB2.out⟩
  | true =>
  obtain ⟨d0, d1, d2, d3, d4, d5, d6⟩ := loss_cells G1.out
  have l2 := blk_lt G1.out
  go_wp2_with fail
  refine (near_calls x hour _).mono ?_
  rintro e w2 ⟨⟨b, rfl⟩, hb⟩
  have HB2 := Lib.hid (bl_step HB1.out hb)
  have HG2 := Lib.hid (HG1.out.below hb)
  have G2 := Lib.hid (blk_below G1.out hb)
  clear hb G1 HG1 HB1 d0 d1 d2 d3 d4 d5 d6 l2
  cases b with
  | false =>
    go_wp2_with fail
    refine (drifting_calls _ (HEN.out.below HB2.out)).mono ?_
    rintro e w3 ⟨rfl, hb⟩
    have HB3 := Lib.hid (bl_step HB2.out hb)
    clear hb
    go_wp2_with fail
    exact bodyPost_ret (v := .bool true) (by simp [results, Tryz.results3, go_sem]) rfl ⟨rfl, HB3.out⟩
  | true =>
  obtain ⟨ea, hea⟩ : ∃ q, q = errAsk s l x f none hour := ⟨_, rfl⟩
  have HEA := Lib.hid hea
  clear hea
  obtain ⟨⟨s0, s1, s2, s3⟩, ls⟩ := HG2.out.cells
  obtain ⟨d0, d1, d2, d3, d4, d5, d6⟩ := loss_cells G2.out
  have l2 := blk_lt G2.out
  go_wp2_with fail
  refine (reach_calls s l x known f hour _ _ _ _ hf HG2.out.2.1 HG2.out.2.2.1 HG2.out.2.2.2).mono ?_
  rintro e w3 ⟨v0, rfl, ho, hb⟩
  rw [← HEA.out]
  have hs : Sl DPlace.cs 2 w3 v0 (reachL s l known f x hour) := ho.sl (cs := DPlace.cs) (k := 2) (fun _ => rfl) (by have := reachL_len s l known f x hour; omega)
  obtain ⟨B0, j0, rfl, _, _⟩ := hs.open_
  have S0_3 := Lib.hid hs
  have HB3 := Lib.hid (bl_step HB2.out hb)
  have HG3 := Lib.hid (HG2.out.below hb)
  have G3 := Lib.hid (blk_below G2.out hb)
  clear hb ho hs G2 HG2 HB2  s0 s1 s2 s3 ls d0 d1 d2 d3 d4 d5 d6 l2
  obtain ⟨⟨s0, s1, s2, s3⟩, ls⟩ := HG3.out.cells
  obtain ⟨d0, d1, d2, d3, d4, d5, d6⟩ := loss_cells G3.out
  have l2 := blk_lt G3.out
  go_wp2_with fail
  refine (reachR_calls s l x known f hour _ _ _ _ HG3.out.2.1 HG3.out.2.2.1 HG3.out.2.2.2).mono ?_
  rintro e w4 ⟨v1, rfl, ho, hb⟩
  rw [← HEA.out]
  have hs := ho
  obtain ⟨B1, j1, rfl, _, _⟩ := hs.open_
  have S1_4 := Lib.hid hs
  have S0_4 := Lib.hid (S0_3.out.below hb)
  have HB4 := Lib.hid (bl_step HB3.out hb)
  have HG4 := Lib.hid (HG3.out.below hb)
  have G4 := Lib.hid (blk_below G3.out hb)
  clear hb ho hs G3 HG3 HB3 S0_3 s0 s1 s2 s3 ls d0 d1 d2 d3 d4 d5 d6 l2
  obtain ⟨⟨s0, s1, s2, s3⟩, ls⟩ := HG4.out.cells
  obtain ⟨d0, d1, d2, d3, d4, d5, d6⟩ := loss_cells G4.out
  have l2 := blk_lt G4.out
  go_wp2_with fail
  refine (beaches_calls s l x known f hour _ _ _ _ hf HG4.out.2.1 HG4.out.2.2.1 HG4.out.2.2.2).mono ?_
  rintro e w5 ⟨v2, rfl, ho, hb⟩
  rw [← HEA.out]
  have hs : Sl intCs 1 w5 v2 (beachL s l known f x hour) := ho.sl (cs := intCs) (k := 1) (fun _ => rfl) (by have := beachL_len s l known f x hour; omega)
  obtain ⟨B2, j2, rfl, _, _⟩ := hs.open_
  have S2_5 := Lib.hid hs
  have S0_5 := Lib.hid (S0_4.out.below hb)
  have S1_5 := Lib.hid (S1_4.out.below hb)
  have HB5 := Lib.hid (bl_step HB4.out hb)
  have HG5 := Lib.hid (HG4.out.below hb)
  have G5 := Lib.hid (blk_below G4.out hb)
  clear hb ho hs G4 HG4 HB4 S0_4 S1_4 s0 s1 s2 s3 ls d0 d1 d2 d3 d4 d5 d6 l2
  obtain ⟨⟨s0, s1, s2, s3⟩, ls⟩ := HG5.out.cells
  obtain ⟨d0, d1, d2, d3, d4, d5, d6⟩ := loss_cells G5.out
  have l2 := blk_lt G5.out
  go_wp2_with fail
  refine (beachesR_calls s l x known f hour _ _ _ _ HG5.out.2.1 HG5.out.2.2.1 HG5.out.2.2.2).mono ?_
  rintro e w6 ⟨v3, rfl, ho, hb⟩
  rw [← HEA.out]
  have hs := ho
  obtain ⟨B3, j3, rfl, _, _⟩ := hs.open_
  have S3_6 := Lib.hid hs
  have S0_6 := Lib.hid (S0_5.out.below hb)
  have S1_6 := Lib.hid (S1_5.out.below hb)
  have S2_6 := Lib.hid (S2_5.out.below hb)
  have HB6 := Lib.hid (bl_step HB5.out hb)
  have HG6 := Lib.hid (HG5.out.below hb)
  have G6 := Lib.hid (blk_below G5.out hb)
  clear hb ho hs G5 HG5 HB5 S0_5 S1_5 S2_5 s0 s1 s2 s3 ls d0 d1 d2 d3 d4 d5 d6 l2
  obtain ⟨⟨s0, s1, s2, s3⟩, ls⟩ := HG6.out.cells
  obtain ⟨d0, d1, d2, d3, d4, d5, d6⟩ := loss_cells G6.out
  have l2 := blk_lt G6.out
  go_wp2_with fail
  refine (landings_calls s l x known f hour _ _ _ _ hf HG6.out.2.1 HG6.out.2.2.1 HG6.out.2.2.2).mono ?_
  rintro e w7 ⟨v4, rfl, ho, hb⟩
  rw [← HEA.out]
  have hs : Sl DLand.cs 3 w7 v4 (landL s l known f x hour) := ho.sl (cs := DLand.cs) (k := 3) (fun _ => rfl) (by have := landL_len s l known f x hour; omega)
  obtain ⟨B4, j4, rfl, _, _⟩ := hs.open_
  have S4_7 := Lib.hid hs
  have S0_7 := Lib.hid (S0_6.out.below hb)
  have S1_7 := Lib.hid (S1_6.out.below hb)
  have S2_7 := Lib.hid (S2_6.out.below hb)
  have S3_7 := Lib.hid (S3_6.out.below hb)
  have HB7 := Lib.hid (bl_step HB6.out hb)
  have HG7 := Lib.hid (HG6.out.below hb)
  have G7 := Lib.hid (blk_below G6.out hb)
  clear hb ho hs G6 HG6 HB6 S0_6 S1_6 S2_6 S3_6 s0 s1 s2 s3 ls d0 d1 d2 d3 d4 d5 d6 l2
  obtain ⟨⟨s0, s1, s2, s3⟩, ls⟩ := HG7.out.cells
  obtain ⟨d0, d1, d2, d3, d4, d5, d6⟩ := loss_cells G7.out
  have l2 := blk_lt G7.out
  go_wp2_with fail
  refine (landingsR_calls s l x known f hour _ _ _ _ hf HG7.out.2.1 HG7.out.2.2.1 HG7.out.2.2.2).mono ?_
  rintro e w8 ⟨v5, rfl, ho, hb⟩
  rw [← HEA.out]
  have hs := ho
  obtain ⟨B5, j5, rfl, _, _⟩ := hs.open_
  have S5_8 := Lib.hid hs
  have S0_8 := Lib.hid (S0_7.out.below hb)
  have S1_8 := Lib.hid (S1_7.out.below hb)
  have S2_8 := Lib.hid (S2_7.out.below hb)
  have S3_8 := Lib.hid (S3_7.out.below hb)
  have S4_8 := Lib.hid (S4_7.out.below hb)
  have HB8 := Lib.hid (bl_step HB7.out hb)
  have HG8 := Lib.hid (HG7.out.below hb)
  have G8 := Lib.hid (blk_below G7.out hb)
  clear hb ho hs G7 HG7 HB7 S0_7 S1_7 S2_7 S3_7 S4_7 s0 s1 s2 s3 ls d0 d1 d2 d3 d4 d5 d6 l2
  go_wp2_with fail
  refine (drifting_calls _ (HEN.out.below HB8.out)).mono ?_
  rintro e w9 ⟨rfl, hb⟩
  have HB9 := Lib.hid (bl_step HB8.out hb)
  have S0_9 := Lib.hid (S0_8.out.below hb)
  have S1_9 := Lib.hid (S1_8.out.below hb)
  have S2_9 := Lib.hid (S2_8.out.below hb)
  have S3_9 := Lib.hid (S3_8.out.below hb)
  have S4_9 := Lib.hid (S4_8.out.below hb)
  have S5_9 := Lib.hid (S5_8.out.below hb)
  clear hb HB8 S0_8 S1_8 S2_8 S3_8 S4_8 S5_8
  go_wp2_with fail
  refine (samePlaces_calls _ _ _ _ _ S0_9.out S1_9.out).mono ?_
  rintro e w10 ⟨rfl, hb⟩
  rw [decide_eq_true rfl]
  have HB10 := Lib.hid (bl_step HB9.out hb)
  have S2_10 := Lib.hid (S2_9.out.below hb)
  have S3_10 := Lib.hid (S3_9.out.below hb)
  have S4_10 := Lib.hid (S4_9.out.below hb)
  have S5_10 := Lib.hid (S5_9.out.below hb)
  clear hb HB9
  go_wp2_with fail
  refine (sameInts_calls _ _ _ _ _ S2_10.out S3_10.out).mono ?_
  rintro e w11 ⟨rfl, hb⟩
  rw [decide_eq_true rfl]
  have HB11 := Lib.hid (bl_step HB10.out hb)
  have S4_11 := Lib.hid (S4_10.out.below hb)
  have S5_11 := Lib.hid (S5_10.out.below hb)
  clear hb HB10
  go_wp2_with fail
  refine (sameLands_calls _ _ _ _ _ S4_11.out S5_11.out).mono ?_
  rintro e w12 ⟨rfl, hb⟩
  rw [decide_eq_true rfl]
  have HB12 := Lib.hid (bl_step HB11.out hb)
  clear hb HB11
  go_wp2_with fail
  exact bodyPost_ret (v := .bool true) (by simp [results, Tryz.results3, go_sem]) rfl ⟨rfl, HB12.out⟩
end Go.Proofs.YtjekioabkmijbaaGreatDoor
