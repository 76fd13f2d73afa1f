/- Append. -/
import Derived.Test.YtjekioabkmijbaaGreatDoorZ09
import Derived.Test.YtjekioabkmijbaaGreatDoorZ08
import Derived.Test.YtjekioabkmijbaaGreatDoorZ16
import Derived.Test.YtjekioabkmijbaaGreatDoorZ27
import Derived.Test.YtjekioabkmijbaaGreatDoorZ30
set_option linter.unusedVariables false
set_option linter.unusedSimpArgs false
namespace Go.Proofs.YtjekioabkmijbaaGreatDoor
open Go.RowKit
def errAppend (l : List DWind) (x : DWind) : Int := orE (errLog l).2 (errNext l x)
def appendL (l : List DWind) (x : DWind) : List DWind := if errAppend l x = 0 then l ++ [x] else []
theorem wind_len (x : DWind) : (DWind.cs x).length = 9 := rfl
theorem wind_cells1 (x : DWind) : ∀ u ∈ DWind.cs x, u.oneCell' = true := by
  intro u hu
  simp [DWind.cs] at hu
  rcases hu with rfl | rfl | rfl | rfl | rfl | rfl | rfl | rfl | rfl <;> rfl
theorem own_push_len {l : List DWind} (h : l.length ≤ 1000000) : (l.length + 1) * 72 ≤ 140737488355328 := by omega
set_option maxHeartbeats 4000000 in
set_option maxRecDepth 20000 in
theorem append_calls (l : List DWind) (x : DWind) (v : Value) (w : World) (hs : Sl DWind.cs 9 w v l) :
    Calls Tryz.prog 33 #[v, windV x] w fun e w' => ∃ v', e = .returned (.tuple #[v', iv (errAppend l x)]) ∧ Own DWind.cs 9 53 w.heap.size w' v' (appendL l x) ∧ Below w.heap.size w w' := by
  obtain ⟨A, c, rfl, hc, hl⟩ := hs.open_
  have HS := Lib.hid hs
  have hbx : Below w.heap.size w (w.alloc (.cells (windA x) 53)) := bl_alloc (Below.refl _ _) _
  have g0 := blk_new w (.cells (windA x) 53)
  obtain ⟨W0, hW0⟩ : ∃ W0, W0 = w.alloc (.cells (windA x) 53) := ⟨_, rfl⟩
  have HC := Lib.hid (check_calls l _ W0 (by rw [hW0]; exact hs.below hbx))
  rw [← hW0] at hbx g0
  have HB0 := Lib.hid hbx
  have HW0 := Lib.hid hW0
  clear hs hbx hW0
  by_cases h1 : (errLog l).2 = 0
  · by_cases h2 : errNext l x = 0
    · have HE : Hid (errAppend l x = 0) := by unfold Hid errAppend; rw [h1, h2]; rfl
      have HL : Hid (appendL l x = l ++ [x]) := if_pos HE.out
      have hll := log_len h1
      have H1 := Lib.hid h1
      have H2 := Lib.hid h2
      rw [h1] at HC
      clear h1 h2
      go_enter Tryz.func33, Tryz.ntmps33
      go_wp2_with fail
      rw [← HW0.out]
      refine HC.out.mono ?_
      rintro e w1 ⟨rfl, hb1⟩
      have G0 := Lib.hid (blk_below g0 hb1)
      have HB1 := Lib.hid (bl_step HB0.out hb1)
      clear hb1 g0
      obtain ⟨d0, d1, d2, d3, d4, d5, d6, d7, d8⟩ := wind_cells G0.out
      have l0 := blk_lt G0.out
      have HF := Lib.hid (follows_calls l x _ w1 (HS.out.below HB1.out))
      rw [H2.out] at HF
      go_wp2_with fail
      refine HF.out.mono ?_
      rintro e w2 ⟨rfl, hb2⟩
      have G2 := Lib.hid (blk_below G0.out hb2)
      have HB2 := Lib.hid (bl_step HB1.out hb2)
      clear hb2 d0 d1 d2 d3 d4 d5 d6 d7 d8 l0
      obtain ⟨d0, d1, d2, d3, d4, d5, d6, d7, d8⟩ := wind_cells G2.out
      have l0 := blk_lt G2.out
      go_wp2_with fail
      have hV0 : Hid (Below w2.heap.size w2 w2.drew) := (Below.refl _ _).drew
      have FC : Hid (∀ V, Below w2.heap.size w2 V → Calls Tryz.prog 87 #[.slice A l.length c] V fun e w' => ∃ v', e = .returned v' ∧ Own DWind.cs 9 53 V.heap.size w' v' l ∧ Below V.heap.size V w') := fun V hV => clone_calls l _ V (by omega) ((HS.out.below HB2.out).below hV)
      refine wp_region_held_drew (S := BelS w2) (by kernel_rfl) (show BelS w2 w2.drew from (Below.refl _ _).drew) (fun hHeld => ?_)
      refine wpAnyH_take (i := 0) (v := .slice A l.length c) rfl (by kernel_rfl) (by kernel_rfl) (by kernel_rfl) (fun _ _ _ h => h) (Or.inl ⟨by rfl, ?_⟩) (by assumption) ?_
      · intro U hSw; have hq := (sees_of (show Below w2.heap.size w2 U from hSw)).1; go_simp
      (try simp only [Act.put, List.setIfInBounds_toArray, List.set_cons_zero, List.set_cons_succ])
      refine wpAnyH_take (i := 2) (v := windV x) rfl (by kernel_rfl) (by kernel_rfl) (by kernel_rfl) (fun _ _ _ h => h) (Or.inl ⟨by rfl, ?_⟩) (by assumption) ?_
      · intro U hSw; have hq := (sees_of (show Below w2.heap.size w2 U from hSw)).1; go_simp
      (try simp only [Act.put, List.setIfInBounds_toArray, List.set_cons_zero, List.set_cons_succ])
      clear hHeld d0 d1 d2 d3 d4 d5 d6 d7 d8 l0
      refine wpAnyH_ready (rs := [1, 3]) (by kernel_rfl) (by simp) ?_
      refine AllReadyH.cons rfl (fun K hK => ?_) (AllReadyH.cons rfl (fun K hK => ?_) (AllReadyH.nil))
      · go_simp
        refine (FC.out _ hV0.out).mono ?_
        rintro e V1 ⟨v', rfl, ho, hb1⟩
        have HO1 := Lib.hid (ho.mono (base' := w2.heap.size) hV0.out.size)
        have HV1 := Lib.hid (bl_step hV0.out hb1)
        clear ho hb1
        obtain ⟨A', c', rfl⟩ := HO1.out.slice
        go_simp
        refine hK.out _ _ (show BelS w2 _ from HV1.out) (fun hHeld => ?_)
        clear hK K hHeld
        (try simp only [Act.put, List.setIfInBounds_toArray, List.set_cons_zero, List.set_cons_succ])
        refine wpAnyH_ready (rs := [3]) (by kernel_rfl) (by simp) ?_
        refine AllReadyH.cons rfl (fun K hK => ?_) (AllReadyH.nil)
        go_simp
        refine hK.out _ _ (show BelS w2 _ from bl_alloc HV1.out _) (fun hHeld => ?_)
        clear hK K hHeld
        (try simp only [Act.put, List.setIfInBounds_toArray, List.set_cons_zero, List.set_cons_succ])
        refine wpAnyH_na (fun V2 hW => ?_)
        have HV2 : Hid (Below w2.heap.size w2 V2) := by unfold Hid; rw [hW]; exact bl_alloc HV1.out _
        have GA : Hid (V2.heap[V1.heap.size]? = some (.cells (windA x) 53 (0, 0))) := by unfold Hid; rw [hW]; exact blk_new _ _
        have HO2 : Hid (Own DWind.cs 9 53 w2.heap.size V2 (.slice A' l.length c') l) := by unfold Hid; rw [hW]; exact HO1.out.alloc _
        clear hW
        refine wpAnyH_ready (rs := [4]) (by kernel_rfl) (by simp) ?_
        refine AllReadyH.cons rfl (fun K hK => ?_) (AllReadyH.nil)
        refine step_push (cs := DWind.cs) (base := w2.heap.size) rfl _ _ _ rfl (.agg #[iv 0, iv 0, iv 0, iv 0, iv 0, iv 0, iv 0, iv 0, iv 0]) 72 Tryz.underlying26 info53 rfl (by decide) (.slice A' l.length c') l x rfl HO2.out V1.heap.size 1 1 rfl rfl (0, 0) 53 GA.out rfl (wind_cells1 x) (own_push_len (by omega)) (by decide) (by have := HV2.out.size; omega) ?_
        intro v3 V3 ho3 hg3 hn3
        have HO3 := Lib.hid ho3
        have HV3 : Hid (Below w2.heap.size w2 V3) := bl_push HV2.out HO2.out hg3 (Nat.le_refl _) HV2.out.size
        clear ho3 hg3 hn3
        refine hK.out _ _ (show BelS w2 _ from HV3.out) (fun hHeld => ?_)
        clear hK K
        (try simp only [Act.put, List.setIfInBounds_toArray, List.set_cons_zero, List.set_cons_succ])
        refine wpAnyH_ready (rs := [5]) (by kernel_rfl) (by simp) ?_
        refine AllReadyH.cons rfl (fun K hK => ?_) (AllReadyH.nil)
        go_simp
        refine hK.out _ _ (show BelS w2 _ from HV3.out) (fun hHeld => ?_)
        clear hK K
        (try simp only [Act.put, List.setIfInBounds_toArray, List.set_cons_zero, List.set_cons_succ])
        refine wpAnyH_ready (rs := [6]) (by kernel_rfl) (by simp) ?_
        refine AllReadyH.cons rfl (fun K hK => ?_) (AllReadyH.nil)
        go_simp
        refine hK.out _ _ (show BelS w2 _ from HV3.out) (fun hHeld => ?_)
        clear hK K
        (try simp only [Act.put, List.setIfInBounds_toArray, List.set_cons_zero, List.set_cons_succ])
        refine wpAnyH_done (by kernel_rfl) ?_ _
        go_wp2_with fail
        refine bodyPost_ret (v := .tuple #[v3, iv (errAppend l x)]) (by rw [HE.out]; simp [results, Tryz.results33, go_sem]) rfl ⟨v3, rfl, ?_, ?_⟩
        · rw [HL.out]; exact HO3.out.mono HB2.out.size
        · exact bl_step HB2.out HV3.out
      · go_simp
        refine hK.out _ _ (show BelS w2 _ from bl_alloc hV0.out _) (fun hHeld => ?_)
        clear hK K hHeld
        (try simp only [Act.put, List.setIfInBounds_toArray, List.set_cons_zero, List.set_cons_succ])
        refine wpAnyH_na (fun V1 hW => ?_)
        have HV1 : Hid (Below w2.heap.size w2 V1) := by unfold Hid; rw [hW]; exact bl_alloc hV0.out _
        have GA1 : Hid (V1.heap[w2.heap.size]? = some (.cells (windA x) 53 (0, 0))) := by unfold Hid; rw [hW]; exact blk_new w2.drew _
        clear hW
        refine wpAnyH_ready (rs := [1]) (by kernel_rfl) (by simp) ?_
        refine AllReadyH.cons rfl (fun K hK => ?_) (AllReadyH.nil)
        go_simp
        refine (FC.out _ HV1.out).mono ?_
        rintro e V2 ⟨v', rfl, ho, hb1⟩
        have HO2 := Lib.hid (ho.mono (base' := w2.heap.size) HV1.out.size)
        have HV2 := Lib.hid (bl_step HV1.out hb1)
        have GA := Lib.hid (blk_below GA1.out hb1)
        clear ho hb1
        obtain ⟨A', c', rfl⟩ := HO2.out.slice
        go_simp
        refine hK.out _ _ (show BelS w2 _ from HV2.out) (fun hHeld => ?_)
        clear hK K hHeld
        (try simp only [Act.put, List.setIfInBounds_toArray, List.set_cons_zero, List.set_cons_succ])
        refine wpAnyH_ready (rs := [4]) (by kernel_rfl) (by simp) ?_
        refine AllReadyH.cons rfl (fun K hK => ?_) (AllReadyH.nil)
        refine step_push (cs := DWind.cs) (base := w2.heap.size) rfl _ _ _ rfl (.agg #[iv 0, iv 0, iv 0, iv 0, iv 0, iv 0, iv 0, iv 0, iv 0]) 72 Tryz.underlying26 info53 rfl (by decide) (.slice A' l.length c') l x rfl HO2.out w2.heap.size 1 1 rfl rfl (0, 0) 53 GA.out rfl (wind_cells1 x) (own_push_len (by omega)) (by decide) (by have := HV2.out.size; omega) ?_
        intro v3 V3 ho3 hg3 hn3
        have HO3 := Lib.hid ho3
        have HV3 : Hid (Below w2.heap.size w2 V3) := bl_push HV2.out HO2.out hg3 (Nat.le_refl _) HV2.out.size
        clear ho3 hg3 hn3
        refine hK.out _ _ (show BelS w2 _ from HV3.out) (fun hHeld => ?_)
        clear hK K
        (try simp only [Act.put, List.setIfInBounds_toArray, List.set_cons_zero, List.set_cons_succ])
        refine wpAnyH_ready (rs := [5]) (by kernel_rfl) (by simp) ?_
        refine AllReadyH.cons rfl (fun K hK => ?_) (AllReadyH.nil)
        go_simp
        refine hK.out _ _ (show BelS w2 _ from HV3.out) (fun hHeld => ?_)
        clear hK K
        (try simp only [Act.put, List.setIfInBounds_toArray, List.set_cons_zero, List.set_cons_succ])
        refine wpAnyH_ready (rs := [6]) (by kernel_rfl) (by simp) ?_
        refine AllReadyH.cons rfl (fun K hK => ?_) (AllReadyH.nil)
        go_simp
        refine hK.out _ _ (show BelS w2 _ from HV3.out) (fun hHeld => ?_)
        clear hK K
        (try simp only [Act.put, List.setIfInBounds_toArray, List.set_cons_zero, List.set_cons_succ])
        refine wpAnyH_done (by kernel_rfl) ?_ _
        go_wp2_with fail
        refine bodyPost_ret (v := .tuple #[v3, iv (errAppend l x)]) (by rw [HE.out]; simp [results, Tryz.results33, go_sem]) rfl ⟨v3, rfl, ?_, ?_⟩
        · rw [HL.out]; exact HO3.out.mono HB2.out.size
        · exact bl_step HB2.out HV3.out
    · have HE : Hid (errAppend l x = errNext l x) := by unfold Hid errAppend; rw [h1]; rfl
      have HL : Hid (appendL l x = []) := if_neg (by rw [HE.out]; exact h2)
      rw [h1] at HC
      obtain ⟨en, hen⟩ : ∃ q, q = errNext l x := ⟨_, rfl⟩
      rw [← hen] at HE h2
      have h2' : (en != 0) = true := by simp [bne, h2]
      have HEN := Lib.hid hen
      clear h1 h2 hen
      go_enter Tryz.func33, Tryz.ntmps33
      go_wp2_with fail
      rw [← HW0.out]
      refine HC.out.mono ?_
      rintro e w1 ⟨rfl, hb1⟩
      have G0 := Lib.hid (blk_below g0 hb1)
      have HB1 := Lib.hid (bl_step HB0.out hb1)
      clear hb1 g0
      obtain ⟨d0, d1, d2, d3, d4, d5, d6, d7, d8⟩ := wind_cells G0.out
      have l0 := blk_lt G0.out
      have HF := Lib.hid (follows_calls l x _ w1 (HS.out.below HB1.out))
      rw [← HEN.out] at HF
      go_wp2_with fail
      refine HF.out.mono ?_
      rintro e w2 ⟨rfl, hb2⟩
      have HB2 := Lib.hid (bl_step HB1.out hb2)
      clear hb2 d0 d1 d2 d3 d4 d5 d6 d7 d8 l0
      go_wp2_with fail
      refine bodyPost_ret (v := .tuple #[.slice none 0 0, iv (errAppend l x)]) (by rw [HE.out]; simp [results, Tryz.results33, go_sem]) rfl ⟨_, rfl, ?_, HB2.out⟩
      rw [HL.out]; exact Own.nil _ _
  · have HE : Hid (errAppend l x = (errLog l).2) := by unfold Hid errAppend orE; rw [if_neg h1]
    have HL : Hid (appendL l x = []) := if_neg (by rw [HE.out]; exact h1)
    obtain ⟨en, hen⟩ : ∃ q, q = (errLog l).2 := ⟨_, rfl⟩
    rw [← hen] at HE h1 HC
    have h1' : (en != 0) = true := by simp [bne, h1]
    clear h1 hen
    go_enter Tryz.func33, Tryz.ntmps33
    go_wp2_with fail
    rw [← HW0.out]
    refine HC.out.mono ?_
    rintro e w1 ⟨rfl, hb1⟩
    have HB1 := Lib.hid (bl_step HB0.out hb1)
    clear hb1 g0
    go_wp2_with fail
    refine bodyPost_ret (v := .tuple #[.slice none 0 0, iv (errAppend l x)]) (by rw [HE.out]; simp [results, Tryz.results33, go_sem]) rfl ⟨_, rfl, ?_, HB1.out⟩
    rw [HL.out]; exact Own.nil _ _
end Go.Proofs.YtjekioabkmijbaaGreatDoor
