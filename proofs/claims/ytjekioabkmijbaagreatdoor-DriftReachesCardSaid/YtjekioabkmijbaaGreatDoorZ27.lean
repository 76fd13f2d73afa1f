/- Touched. -/
import Derived.Test.YtjekioabkmijbaaGreatDoorZ19
import Derived.Deep.RegionWith
set_option linter.unusedVariables false
set_option linter.unusedSimpArgs false
namespace Go.Proofs.YtjekioabkmijbaaGreatDoor
open Go.RowKit Go.Shelf
attribute [local go_sem] Oper.semAt_some
theorem sees_of {W V : World} (h : Below W.heap.size W V) : (∀ b o, b < W.heap.size → V.cell? ⟨b, o, none⟩ = W.cell? ⟨b, o, none⟩) ∧ Hid (Below W.heap.size W V) := ⟨fun b o hl => h.cell (p := ⟨b, o, none⟩) hl, h⟩
theorem wdN_xor (m m' i : Nat) : wdN (m ^^^ m') i = wdN m i ^^^ wdN m' i := by
  apply Nat.eq_of_testBit_eq
  intro j
  simp only [wdN_bit, Nat.testBit_xor]
  cases decide (j < 64) <;> simp
theorem wd_xor (m m' i : Nat) : bits .xor .u64 (wd m i) (wd m' i) = wd (m ^^^ m') i := by
  rw [wd_eq, wd_eq, wd_eq, bits_xor_u64_nat _ _ (wdN_lt _ _) (wdN_lt _ _), wdN_xor]
theorem xor_step (x y : Nat) (i : Nat) (hi : i < 5) (A : Array Value) (hA : A.size = 5) (h0 : ∀ j, j < i → A[j]? = some (.int .u64 (wd (x ^^^ y) j))) (h1 : ∀ j, i ≤ j → j < 5 → A[j]? = some (.int .u64 (wd x j))) :
    (∀ j, j < i + 1 → (A.setIfInBounds i (.int .u64 (bits .xor .u64 (wd x i) (wd y i))))[j]? = some (.int .u64 (wd (x ^^^ y) j))) ∧ (∀ j, i + 1 ≤ j → j < 5 → (A.setIfInBounds i (.int .u64 (bits .xor .u64 (wd x i) (wd y i))))[j]? = some (.int .u64 (wd x j))) := by
  rw [wd_xor]
  refine ⟨fun j hj => ?_, fun j hj hj5 => ?_⟩
  · rw [Array.getElem?_setIfInBounds]
    split
    · rename_i h; subst h; simp [hA, hi]
    · exact h0 j (by omega)
  · rw [Array.getElem?_setIfInBounds, if_neg (by omega)]; exact h1 j (by omega) hj5
def BelS (W V : World) : Prop := Below W.heap.size W V
theorem wpAnyH_abs {P : Program} {md : Region.Mode} {ops : Array Oper} {Q : Exit → Act → World → Prop} {S : World → Prop} {n : Nat} {l : Array Bool} {a : Act} {w : World} (h : ∀ W, W = w → wpAnyH P md ops Q S n l a W) : wpAnyH P md ops Q S n l a w := h w rfl
theorem touch_set {W V : World} (h : Below W.heap.size W V) {g : Nat} (hg : W.heap.size ≤ g) (u0 u1 u2 u3 u4 : Value) : Below W.heap.size W (((((V.setCell ⟨g, 0, none⟩ u0).setCell ⟨g, 1, none⟩ u1).setCell ⟨g, 2, none⟩ u2).setCell ⟨g, 3, none⟩ u3).setCell ⟨g, 4, none⟩ u4) :=
  ((((h.setCell (p := ⟨g, 0, none⟩) hg u0).setCell (p := ⟨g, 1, none⟩) hg u1).setCell (p := ⟨g, 2, none⟩) hg u2).setCell (p := ⟨g, 3, none⟩) hg u3).setCell (p := ⟨g, 4, none⟩) hg u4
theorem touch_far {V : World} {b g : Nat} {o : Obj} (h : V.heap[b]? = some o) (hg : b ≠ g) (u0 u1 u2 u3 u4 : Value) : (((((V.setCell ⟨g, 0, none⟩ u0).setCell ⟨g, 1, none⟩ u1).setCell ⟨g, 2, none⟩ u2).setCell ⟨g, 3, none⟩ u3).setCell ⟨g, 4, none⟩ u4).heap[b]? = some o :=
  blk_far (blk_far (blk_far (blk_far (blk_far h (p := ⟨g, 0, none⟩) hg u0) (p := ⟨g, 1, none⟩) hg u1) (p := ⟨g, 2, none⟩) hg u2) (p := ⟨g, 3, none⟩) hg u3) (p := ⟨g, 4, none⟩) hg u4
def touchL (s : DSea) (l : List DWind) (known known' f : Int) (x : DLoss) (h : Int) : List DPlace := if errAsk s l x f none h = 0 then placesOf (reachM s (counting l known) f x h ^^^ reachM s (counting l known') f x h) else []
set_option maxHeartbeats 20000000 in
set_option maxRecDepth 20000 in
theorem touched_calls (s : DSea) (l : List DWind) (x : DLoss) (known known' f h : Int) (vh vt vl : Value) (w : World) (hf : 0 ≤ f ∧ f ≤ 255) (h1 : Sl intCs 1 w vh s.hts) (h2 : Sl DTide.cs 2 w vt s.tds) (h3 : Sl DWind.cs 9 w vl l) :
    Calls Tryz.prog 34 #[.agg #[iv s.cells, iv s.bands, vh, vt], vl, iv known, iv known', lossV x, .int .u8 f, iv h] w fun e w' =>
      ∃ v, e = .returned (.tuple #[v, iv (errAsk s l x f none h)]) ∧ Own DPlace.cs 2 48 w.heap.size w' v (touchL s l known known' f x h) ∧ Below w.heap.size w w' := by
  obtain ⟨A1, k1, rfl, hk1, hlk1⟩ := h1.open_
  obtain ⟨A2, k2, rfl, hk2, hlk2⟩ := h2.open_
  have hbW := bl_alloc (bl_alloc (Below.refl w.heap.size w) (.cells #[iv s.cells, iv s.bands, .slice A1 s.hts.length k1, .slice A2 s.tds.length k2] 25)) (.cells (lossA x) 30)
  have HBW := Lib.hid hbW
  by_cases he : errAsk s l x f none h = 0
  · have HC := Lib.hid (asked_ok s l x known f h _ _ vl _ hf (h1.below hbW) (h2.below hbW) (h3.below hbW) he)
    have HFA := Lib.hid (ask_facts he)
    have HR : Hid (touchL s l known known' f x h = placesOf (reachM s (counting l known) f x h ^^^ reachM s (counting l known') f x h)) := if_pos he
    have HE := Lib.hid he
    have H1 := Lib.hid h1
    have H2 := Lib.hid h2
    have H3 := Lib.hid h3
    clear he h1 h2 h3 hbW
    go_enter Tryz.func34, Tryz.ntmps34
    go_wp2_with fail
    refine HC.out.mono ?_
    rintro e w1 ⟨A3, n3, c3, rfl, hk, hb1⟩
    have HK := Lib.hid hk
    have G0 := Lib.hid (blk_below (blk_alloc (blk_new w (.cells #[iv s.cells, iv s.bands, .slice A1 s.hts.length k1, .slice A2 s.tds.length k2] 25)) (.cells (lossA x) 30)) hb1)
    have G1 := Lib.hid (blk_below (blk_at (w := w.alloc (.cells #[iv s.cells, iv s.bands, .slice A1 s.hts.length k1, .slice A2 s.tds.length k2] 25)) (.cells (lossA x) 30) (show w.heap.size + 1 = _ by simp)) hb1)
    have HB1 := Lib.hid (bl_step HBW.out hb1)
    have g0 := blk_cell G0.out 0
    have g1 := blk_cell G0.out 1
    have g2 := blk_cell G0.out 2
    have g3 := blk_cell G0.out 3
    simp only [List.getElem?_toArray, List.getElem?_cons_zero, List.getElem?_cons_succ] at g0 g1 g2 g3
    obtain ⟨d0, d1, d2, d3, d4, d5, d6⟩ := loss_cells G1.out
    have l1 := blk_lt G1.out
    have l1' : w.heap.size < w1.heap.size := by omega
    clear hk hb1
    go_wp2_with fail
    refine calls_abs (fun W2 hW2 => ?_)
    have hb2 : Below w1.heap.size w1 W2 := by rw [hW2]; exact bl_alloc (Below.refl _ _) _
    have gs1 : W2.heap[w1.heap.size]? = some (.cells #[iv s.cells, iv s.bands, .slice A1 s.hts.length k1, .slice A2 s.tds.length k2, .slice A3 n3 c3, iv f] 110 (0, 0)) := by rw [hW2]; exact blk_new _ _
    clear hW2
    have hb12 := bl_step HB1.out hb2
    refine (asked_ok s l x known' f h _ _ vl W2 hf (H1.out.below hb12) (H2.out.below hb12) (H3.out.below hb12) HE.out).mono ?_
    rintro e w3 ⟨A4, n4, c4, rfl, hk3, hb3⟩
    have G1_3 := Lib.hid (blk_below (blk_below G1.out hb2) hb3)
    have GS1 := Lib.hid (blk_below gs1 hb3)
    have HK1 := Lib.hid ((HK.out.below hb2).below hb3)
    have HK3 := Lib.hid hk3
    have HB3 := Lib.hid (bl_step hb12 hb3)
    clear d0 d1 d2 d3 d4 d5 d6 g0 g1 g2 g3 hb2 hb12 hb3 gs1 hk3 HK
    go_wp2_with fail
    refine wp_abs (fun W hW => ?_)
    have hbW : Below w3.heap.size w3 W := by rw [hW]; exact bl_alloc (Below.refl _ _) _
    have gs2 : W.heap[w3.heap.size]? = some (.cells #[iv s.cells, iv s.bands, .slice A1 s.hts.length k1, .slice A2 s.tds.length k2, .slice A4 n4 c4, iv f] 110 (0, 0)) := by rw [hW]; exact blk_new _ _
    clear hW
    have gs1 := blk_below GS1.out hbW
    have hl := blk_below G1_3.out hbW
    have HBW' := Lib.hid (bl_step HB3.out hbW)
    have FC1 : Hid (∀ V, Below W.heap.size W V → Calls Tryz.prog 77 #[.agg #[iv s.cells, iv s.bands, .slice A1 s.hts.length k1, .slice A2 s.tds.length k2, .slice A3 n3 c3, iv f], lossV x, iv h] V fun e w' => e = .returned (setV (reachM s (counting l known) f x h)) ∧ Below V.heap.size V w') := fun V hV => last_calls s _ f _ _ _ x h V ((HK1.out.below hbW).below hV) HFA.out.loss HFA.out.hour.2 HFA.out.near.1
    have FC2 : Hid (∀ V, Below W.heap.size W V → Calls Tryz.prog 77 #[.agg #[iv s.cells, iv s.bands, .slice A1 s.hts.length k1, .slice A2 s.tds.length k2, .slice A4 n4 c4, iv f], lossV x, iv h] V fun e w' => e = .returned (setV (reachM s (counting l known') f x h)) ∧ Below V.heap.size V w') := fun V hV => last_calls s _ f _ _ _ x h V ((HK3.out.below hbW).below hV) HFA.out.loss HFA.out.hour.2 HFA.out.near.1
    obtain ⟨M1, hM1⟩ : ∃ q, q = reachM s (counting l known) f x h := ⟨_, rfl⟩
    obtain ⟨M2, hM2⟩ : ∃ q, q = reachM s (counting l known') f x h := ⟨_, rfl⟩
    rw [← hM1] at FC1 HR
    rw [← hM2] at FC2 HR
    obtain ⟨c0, c1, c2, c3', c4', c5⟩ := sky_cells gs1
    obtain ⟨e0, e1, e2, e3, e4, e5⟩ := sky_cells gs2
    obtain ⟨d0, d1, d2, d3, d4, d5, d6⟩ := loss_cells hl
    have ls1 := blk_lt gs1
    have ls2 := blk_lt gs2
    have ls3 := blk_lt hl
    clear hM1 hM2 gs1 gs2 hl hbW
    go_upto_region 7 with fail
    go_cut [19, 20] (fun s19 s20 wx => ∃ b1 b2 : Nat, s19 = .pointer (some ⟨b1, 0, none⟩) ∧ s20 = .pointer (some ⟨b2, 0, none⟩) ∧ wx.heap[b1]? = some (.cells (setA M1) 115 (0, 0)) ∧ wx.heap[b2]? = some (.cells (setA M2) 115 (0, 0)) ∧ b1 ≠ b2 ∧ W.heap.size ≤ b1 ∧ W.heap.size ≤ b2 ∧ Below W.heap.size W wx)
    case first =>
      refine wp_region_held_drew (S := BelS W) (by kernel_rfl) (show BelS W W.drew from (Below.refl _ _).drew) (fun hHeld => ?_)
      refine wpAnyH_take (i := 0) (v := .agg #[iv s.cells, iv s.bands, .slice A1 s.hts.length k1, .slice A2 s.tds.length k2, .slice A3 n3 c3, iv f]) rfl (by kernel_rfl) (by kernel_rfl) (by kernel_rfl) (fun _ _ _ h => h) (Or.inl ⟨by rfl, ?_⟩) (by assumption) ?_
      · intro U hSw; have hq := (sees_of hSw).1; go_simp
      try simp only [Act.put, List.setIfInBounds_toArray, List.set_cons_zero, List.set_cons_succ]
      refine wpAnyH_take (i := 1) (v := lossV x) rfl (by kernel_rfl) (by kernel_rfl) (by kernel_rfl) (fun _ _ _ h => h) (Or.inl ⟨by rfl, ?_⟩) (by assumption) ?_
      · intro U hSw; have hq := (sees_of hSw).1; go_simp
      try simp only [Act.put, List.setIfInBounds_toArray, List.set_cons_zero, List.set_cons_succ]
      refine wpAnyH_take (i := 2) (v := iv h) rfl (by kernel_rfl) (by kernel_rfl) (by kernel_rfl) (fun _ _ _ h => h) (Or.inl ⟨by rfl, ?_⟩) (by assumption) ?_
      · intro U hSw; have hq := (sees_of hSw).1; go_simp
      try simp only [Act.put, List.setIfInBounds_toArray, List.set_cons_zero, List.set_cons_succ]
      refine wpAnyH_take (i := 4) (v := .agg #[iv s.cells, iv s.bands, .slice A1 s.hts.length k1, .slice A2 s.tds.length k2, .slice A4 n4 c4, iv f]) rfl (by kernel_rfl) (by kernel_rfl) (by kernel_rfl) (fun _ _ _ h => h) (Or.inl ⟨by rfl, ?_⟩) (by assumption) ?_
      · intro U hSw; have hq := (sees_of hSw).1; go_simp
      try simp only [Act.put, List.setIfInBounds_toArray, List.set_cons_zero, List.set_cons_succ]
      refine wpAnyH_take (i := 5) (v := lossV x) rfl (by kernel_rfl) (by kernel_rfl) (by kernel_rfl) (fun _ _ _ h => h) (Or.inl ⟨by rfl, ?_⟩) (by assumption) ?_
      · intro U hSw; have hq := (sees_of hSw).1; go_simp
      try simp only [Act.put, List.setIfInBounds_toArray, List.set_cons_zero, List.set_cons_succ]
      refine wpAnyH_take (i := 6) (v := iv h) rfl (by kernel_rfl) (by kernel_rfl) (by kernel_rfl) (fun _ _ _ h => h) (Or.inl ⟨by rfl, ?_⟩) (by assumption) ?_
      · intro U hSw; have hq := (sees_of hSw).1; go_simp
      try simp only [Act.put, List.setIfInBounds_toArray, List.set_cons_zero, List.set_cons_succ]
      have hV0 : Hid (Below W.heap.size W W.drew) := (Below.refl _ _).drew
      clear hHeld
      refine wpAnyH_ready (rs := [3, 8, 9]) (by kernel_rfl) (by simp) ?_
      refine AllReadyH.cons rfl (fun K hK => ?_) (AllReadyH.cons rfl (fun K hK => ?_) (AllReadyH.cons rfl (fun K hK => ?_) (AllReadyH.nil)))
      · go_simp
        refine (FC1.out W.drew hV0.out).mono ?_
        rintro e V1 ⟨rfl, hb⟩
        refine hK.out _ _ (show BelS W V1 from bl_step hV0.out hb) (fun hHeld => ?_)
        clear hK K hHeld
        (try simp only [Act.put, List.setIfInBounds_toArray, List.set_cons_zero, List.set_cons_succ])
        have hV1 := Lib.hid (bl_step hV0.out hb)
        clear hb
        refine wpAnyH_ready (rs := [7, 8, 9]) (by kernel_rfl) (by simp) ?_
        refine AllReadyH.cons rfl (fun K hK => ?_) (AllReadyH.cons rfl (fun K hK => ?_) (AllReadyH.cons rfl (fun K hK => ?_) (AllReadyH.nil)))
        · go_simp
          refine (FC2.out V1 hV1.out).mono ?_
          rintro e V2 ⟨rfl, hb⟩
          refine hK.out _ _ (show BelS W V2 from bl_step hV1.out hb) (fun hHeld => ?_)
          clear hK K hHeld
          (try simp only [Act.put, List.setIfInBounds_toArray, List.set_cons_zero, List.set_cons_succ])
          have hV2 := Lib.hid (bl_step hV1.out hb)
          clear hb
          refine wpAnyH_ready (rs := [8, 9]) (by kernel_rfl) (by simp) ?_
          refine AllReadyH.cons rfl (fun K hK => ?_) (AllReadyH.cons rfl (fun K hK => ?_) (AllReadyH.nil))
          · go_simp
            refine hK.out _ _ (show BelS W _ from bl_alloc hV2.out _) (fun hHeld => ?_)
            clear hK K hHeld
            (try simp only [Act.put, List.setIfInBounds_toArray, List.set_cons_zero, List.set_cons_succ])
            refine wpAnyH_abs (fun V3 hW => ?_)
            have hV3 : Hid (Below W.heap.size W V3) := by rw [hW]; exact bl_alloc hV2.out _
            have gA3 : Hid (V3.heap[V2.heap.size]? = some (.cells zeroA 115 (0, 0))) := by rw [hW]; exact blk_new _ _
            have hgA : Hid (W.heap.size ≤ V2.heap.size) := hV2.out.size
            clear hW
            refine wpAnyH_ready (rs := [9]) (by kernel_rfl) (by simp) ?_
            refine AllReadyH.cons rfl (fun K hK => ?_) (AllReadyH.nil)
            · go_simp
              refine hK.out _ _ (show BelS W _ from bl_alloc hV3.out _) (fun hHeld => ?_)
              clear hK K hHeld
              (try simp only [Act.put, List.setIfInBounds_toArray, List.set_cons_zero, List.set_cons_succ])
              refine wpAnyH_abs (fun V4 hW => ?_)
              have hV4 : Hid (Below W.heap.size W V4) := by rw [hW]; exact bl_alloc hV3.out _
              have gA4 := Lib.hid (blk_alloc gA3.out (.cells zeroA 115))
              rw [← hW] at gA4
              have gB4 : Hid (V4.heap[V3.heap.size]? = some (.cells zeroA 115 (0, 0))) := by rw [hW]; exact blk_new _ _
              have hne : Hid (V2.heap.size ≠ V3.heap.size) := Nat.ne_of_lt (blk_lt gA3.out)
              have hgB : Hid (W.heap.size ≤ V3.heap.size) := hV3.out.size
              clear hW
              obtain ⟨na, hna⟩ : ∃ n, n = V2.heap.size := ⟨_, rfl⟩
              obtain ⟨nb, hnb⟩ : ∃ n, n = V3.heap.size := ⟨_, rfl⟩
              have qa : W.heap.size ≤ na := by rw [hna]; exact hgA.out
              have qb : W.heap.size ≤ nb := by rw [hnb]; exact hgB.out
              have hn : na ≠ nb := by rw [hna, hnb]; exact hne.out
              have GA : Hid (V4.heap[na]? = some (.cells zeroA 115 (0, 0))) := by rw [hna]; exact gA4.out
              have GB : Hid (V4.heap[nb]? = some (.cells zeroA 115 (0, 0))) := by rw [hnb]; exact gB4.out
              rw [← hna, ← hnb]
              clear hna hnb c0 c1 c2 c3' c4' c5 e0 e1 e2 e3 e4 e5 d0 d1 d2 d3 d4 d5 d6
              obtain ⟨e0, e1, e2, e3, e4⟩ := zero_cells GA.out
              obtain ⟨f0, f1, f2, f3, f4⟩ := five_frozen GA.out
              obtain ⟨d0, d1, d2, d3, d4⟩ := zero_cells GB.out
              obtain ⟨k0, k1, k2, k3, k4⟩ := five_frozen GB.out
              have hne' : ¬ nb = na := fun h => hn h.symm
              refine wpAnyH_ready (rs := [10]) (by kernel_rfl) (by simp) ?_
              refine AllReadyH.cons rfl (fun K hK => ?_) AllReadyH.nil
              go_simp
              refine hK.out _ _ (touch_set hV4.out qa _ _ _ _ _) (fun hHeld => ?_)
              clear hK K hHeld
              (try simp only [Act.put, List.setIfInBounds_toArray, List.set_cons_zero, List.set_cons_succ])
              refine wpAnyH_ready (rs := [11]) (by kernel_rfl) (by simp) ?_
              refine AllReadyH.cons rfl (fun K hK => ?_) AllReadyH.nil
              go_simp
              refine hK.out _ _ (touch_set (touch_set hV4.out qa _ _ _ _ _) qb _ _ _ _ _) (fun hHeld => ?_)
              clear hK K hHeld
              (try simp only [Act.put, List.setIfInBounds_toArray, List.set_cons_zero, List.set_cons_succ])
              refine wpAnyH_done (by kernel_rfl) ?_ _
              go_wp2_with fail
              go_meet
              exact ⟨na, nb, rfl, rfl, touch_far (blk_set5 GA.out _ _ _ _ _) hn _ _ _ _ _, blk_set5 (touch_far GB.out hne' _ _ _ _ _) _ _ _ _ _, hn, qa, qb, touch_set (touch_set hV4.out qa _ _ _ _ _) qb _ _ _ _ _⟩
          · go_simp
            refine hK.out _ _ (show BelS W _ from bl_alloc hV2.out _) (fun hHeld => ?_)
            clear hK K hHeld
            (try simp only [Act.put, List.setIfInBounds_toArray, List.set_cons_zero, List.set_cons_succ])
            refine wpAnyH_abs (fun V5 hW => ?_)
            have hV5 : Hid (Below W.heap.size W V5) := by rw [hW]; exact bl_alloc hV2.out _
            have gB5 : Hid (V5.heap[V2.heap.size]? = some (.cells zeroA 115 (0, 0))) := by rw [hW]; exact blk_new _ _
            have hgB : Hid (W.heap.size ≤ V2.heap.size) := hV2.out.size
            clear hW
            refine wpAnyH_ready (rs := [8]) (by kernel_rfl) (by simp) ?_
            refine AllReadyH.cons rfl (fun K hK => ?_) (AllReadyH.nil)
            · go_simp
              refine hK.out _ _ (show BelS W _ from bl_alloc hV5.out _) (fun hHeld => ?_)
              clear hK K hHeld
              (try simp only [Act.put, List.setIfInBounds_toArray, List.set_cons_zero, List.set_cons_succ])
              refine wpAnyH_abs (fun V6 hW => ?_)
              have hV6 : Hid (Below W.heap.size W V6) := by rw [hW]; exact bl_alloc hV5.out _
              have gA6 : Hid (V6.heap[V5.heap.size]? = some (.cells zeroA 115 (0, 0))) := by rw [hW]; exact blk_new _ _
              have gB6 := Lib.hid (blk_alloc gB5.out (.cells zeroA 115))
              rw [← hW] at gB6
              have hne : Hid (V5.heap.size ≠ V2.heap.size) := Nat.ne_of_gt (blk_lt gB5.out)
              have hgA : Hid (W.heap.size ≤ V5.heap.size) := hV5.out.size
              clear hW
              obtain ⟨na, hna⟩ : ∃ n, n = V5.heap.size := ⟨_, rfl⟩
              obtain ⟨nb, hnb⟩ : ∃ n, n = V2.heap.size := ⟨_, rfl⟩
              have qa : W.heap.size ≤ na := by rw [hna]; exact hgA.out
              have qb : W.heap.size ≤ nb := by rw [hnb]; exact hgB.out
              have hn : na ≠ nb := by rw [hna, hnb]; exact hne.out
              have GA : Hid (V6.heap[na]? = some (.cells zeroA 115 (0, 0))) := by rw [hna]; exact gA6.out
              have GB : Hid (V6.heap[nb]? = some (.cells zeroA 115 (0, 0))) := by rw [hnb]; exact gB6.out
              rw [← hna, ← hnb]
              clear hna hnb c0 c1 c2 c3' c4' c5 e0 e1 e2 e3 e4 e5 d0 d1 d2 d3 d4 d5 d6
              obtain ⟨e0, e1, e2, e3, e4⟩ := zero_cells GA.out
              obtain ⟨f0, f1, f2, f3, f4⟩ := five_frozen GA.out
              obtain ⟨d0, d1, d2, d3, d4⟩ := zero_cells GB.out
              obtain ⟨k0, k1, k2, k3, k4⟩ := five_frozen GB.out
              have hne' : ¬ nb = na := fun h => hn h.symm
              refine wpAnyH_ready (rs := [10]) (by kernel_rfl) (by simp) ?_
              refine AllReadyH.cons rfl (fun K hK => ?_) AllReadyH.nil
              go_simp
              refine hK.out _ _ (touch_set hV6.out qa _ _ _ _ _) (fun hHeld => ?_)
              clear hK K hHeld
              (try simp only [Act.put, List.setIfInBounds_toArray, List.set_cons_zero, List.set_cons_succ])
              refine wpAnyH_ready (rs := [11]) (by kernel_rfl) (by simp) ?_
              refine AllReadyH.cons rfl (fun K hK => ?_) AllReadyH.nil
              go_simp
              refine hK.out _ _ (touch_set (touch_set hV6.out qa _ _ _ _ _) qb _ _ _ _ _) (fun hHeld => ?_)
              clear hK K hHeld
              (try simp only [Act.put, List.setIfInBounds_toArray, List.set_cons_zero, List.set_cons_succ])
              refine wpAnyH_done (by kernel_rfl) ?_ _
              go_wp2_with fail
              go_meet
              exact ⟨na, nb, rfl, rfl, touch_far (blk_set5 GA.out _ _ _ _ _) hn _ _ _ _ _, blk_set5 (touch_far GB.out hne' _ _ _ _ _) _ _ _ _ _, hn, qa, qb, touch_set (touch_set hV6.out qa _ _ _ _ _) qb _ _ _ _ _⟩
        · go_simp
          refine hK.out _ _ (show BelS W _ from bl_alloc hV1.out _) (fun hHeld => ?_)
          clear hK K hHeld
          (try simp only [Act.put, List.setIfInBounds_toArray, List.set_cons_zero, List.set_cons_succ])
          refine wpAnyH_abs (fun V7 hW => ?_)
          have hV7 : Hid (Below W.heap.size W V7) := by rw [hW]; exact bl_alloc hV1.out _
          have gA7 : Hid (V7.heap[V1.heap.size]? = some (.cells zeroA 115 (0, 0))) := by rw [hW]; exact blk_new _ _
          have hgA : Hid (W.heap.size ≤ V1.heap.size) := hV1.out.size
          clear hW
          refine wpAnyH_ready (rs := [7, 9]) (by kernel_rfl) (by simp) ?_
          refine AllReadyH.cons rfl (fun K hK => ?_) (AllReadyH.cons rfl (fun K hK => ?_) (AllReadyH.nil))
          · go_simp
            refine (FC2.out V7 hV7.out).mono ?_
            rintro e V8 ⟨rfl, hb⟩
            refine hK.out _ _ (show BelS W V8 from bl_step hV7.out hb) (fun hHeld => ?_)
            clear hK K hHeld
            (try simp only [Act.put, List.setIfInBounds_toArray, List.set_cons_zero, List.set_cons_succ])
            have hV8 := Lib.hid (bl_step hV7.out hb)
            have gA8 := Lib.hid (blk_below gA7.out hb)
            clear hb
            refine wpAnyH_ready (rs := [9]) (by kernel_rfl) (by simp) ?_
            refine AllReadyH.cons rfl (fun K hK => ?_) (AllReadyH.nil)
            · go_simp
              refine hK.out _ _ (show BelS W _ from bl_alloc hV8.out _) (fun hHeld => ?_)
              clear hK K hHeld
              (try simp only [Act.put, List.setIfInBounds_toArray, List.set_cons_zero, List.set_cons_succ])
              refine wpAnyH_abs (fun V9 hW => ?_)
              have hV9 : Hid (Below W.heap.size W V9) := by rw [hW]; exact bl_alloc hV8.out _
              have gA9 := Lib.hid (blk_alloc gA8.out (.cells zeroA 115))
              rw [← hW] at gA9
              have gB9 : Hid (V9.heap[V8.heap.size]? = some (.cells zeroA 115 (0, 0))) := by rw [hW]; exact blk_new _ _
              have hne : Hid (V1.heap.size ≠ V8.heap.size) := Nat.ne_of_lt (blk_lt gA8.out)
              have hgB : Hid (W.heap.size ≤ V8.heap.size) := hV8.out.size
              clear hW
              obtain ⟨na, hna⟩ : ∃ n, n = V1.heap.size := ⟨_, rfl⟩
              obtain ⟨nb, hnb⟩ : ∃ n, n = V8.heap.size := ⟨_, rfl⟩
              have qa : W.heap.size ≤ na := by rw [hna]; exact hgA.out
              have qb : W.heap.size ≤ nb := by rw [hnb]; exact hgB.out
              have hn : na ≠ nb := by rw [hna, hnb]; exact hne.out
              have GA : Hid (V9.heap[na]? = some (.cells zeroA 115 (0, 0))) := by rw [hna]; exact gA9.out
              have GB : Hid (V9.heap[nb]? = some (.cells zeroA 115 (0, 0))) := by rw [hnb]; exact gB9.out
              rw [← hna, ← hnb]
              clear hna hnb c0 c1 c2 c3' c4' c5 e0 e1 e2 e3 e4 e5 d0 d1 d2 d3 d4 d5 d6
              obtain ⟨e0, e1, e2, e3, e4⟩ := zero_cells GA.out
              obtain ⟨f0, f1, f2, f3, f4⟩ := five_frozen GA.out
              obtain ⟨d0, d1, d2, d3, d4⟩ := zero_cells GB.out
              obtain ⟨k0, k1, k2, k3, k4⟩ := five_frozen GB.out
              have hne' : ¬ nb = na := fun h => hn h.symm
              refine wpAnyH_ready (rs := [10]) (by kernel_rfl) (by simp) ?_
              refine AllReadyH.cons rfl (fun K hK => ?_) AllReadyH.nil
              go_simp
              refine hK.out _ _ (touch_set hV9.out qa _ _ _ _ _) (fun hHeld => ?_)
              clear hK K hHeld
              (try simp only [Act.put, List.setIfInBounds_toArray, List.set_cons_zero, List.set_cons_succ])
              refine wpAnyH_ready (rs := [11]) (by kernel_rfl) (by simp) ?_
              refine AllReadyH.cons rfl (fun K hK => ?_) AllReadyH.nil
              go_simp
              refine hK.out _ _ (touch_set (touch_set hV9.out qa _ _ _ _ _) qb _ _ _ _ _) (fun hHeld => ?_)
              clear hK K hHeld
              (try simp only [Act.put, List.setIfInBounds_toArray, List.set_cons_zero, List.set_cons_succ])
              refine wpAnyH_done (by kernel_rfl) ?_ _
              go_wp2_with fail
              go_meet
              exact ⟨na, nb, rfl, rfl, touch_far (blk_set5 GA.out _ _ _ _ _) hn _ _ _ _ _, blk_set5 (touch_far GB.out hne' _ _ _ _ _) _ _ _ _ _, hn, qa, qb, touch_set (touch_set hV9.out qa _ _ _ _ _) qb _ _ _ _ _⟩
          · go_simp
            refine hK.out _ _ (show BelS W _ from bl_alloc hV7.out _) (fun hHeld => ?_)
            clear hK K hHeld
            (try simp only [Act.put, List.setIfInBounds_toArray, List.set_cons_zero, List.set_cons_succ])
            refine wpAnyH_abs (fun V10 hW => ?_)
            have hV10 : Hid (Below W.heap.size W V10) := by rw [hW]; exact bl_alloc hV7.out _
            have gA10 := Lib.hid (blk_alloc gA7.out (.cells zeroA 115))
            rw [← hW] at gA10
            have gB10 : Hid (V10.heap[V7.heap.size]? = some (.cells zeroA 115 (0, 0))) := by rw [hW]; exact blk_new _ _
            have hne : Hid (V1.heap.size ≠ V7.heap.size) := Nat.ne_of_lt (blk_lt gA7.out)
            have hgB : Hid (W.heap.size ≤ V7.heap.size) := hV7.out.size
            clear hW
            refine wpAnyH_ready (rs := [7]) (by kernel_rfl) (by simp) ?_
            refine AllReadyH.cons rfl (fun K hK => ?_) (AllReadyH.nil)
            · go_simp
              refine (FC2.out V10 hV10.out).mono ?_
              rintro e V11 ⟨rfl, hb⟩
              refine hK.out _ _ (show BelS W V11 from bl_step hV10.out hb) (fun hHeld => ?_)
              clear hK K hHeld
              (try simp only [Act.put, List.setIfInBounds_toArray, List.set_cons_zero, List.set_cons_succ])
              have hV11 := Lib.hid (bl_step hV10.out hb)
              have gA11 := Lib.hid (blk_below gA10.out hb)
              have gB11 := Lib.hid (blk_below gB10.out hb)
              clear hb
              obtain ⟨na, hna⟩ : ∃ n, n = V1.heap.size := ⟨_, rfl⟩
              obtain ⟨nb, hnb⟩ : ∃ n, n = V7.heap.size := ⟨_, rfl⟩
              have qa : W.heap.size ≤ na := by rw [hna]; exact hgA.out
              have qb : W.heap.size ≤ nb := by rw [hnb]; exact hgB.out
              have hn : na ≠ nb := by rw [hna, hnb]; exact hne.out
              have GA : Hid (V11.heap[na]? = some (.cells zeroA 115 (0, 0))) := by rw [hna]; exact gA11.out
              have GB : Hid (V11.heap[nb]? = some (.cells zeroA 115 (0, 0))) := by rw [hnb]; exact gB11.out
              rw [← hna, ← hnb]
              clear hna hnb c0 c1 c2 c3' c4' c5 e0 e1 e2 e3 e4 e5 d0 d1 d2 d3 d4 d5 d6
              obtain ⟨e0, e1, e2, e3, e4⟩ := zero_cells GA.out
              obtain ⟨f0, f1, f2, f3, f4⟩ := five_frozen GA.out
              obtain ⟨d0, d1, d2, d3, d4⟩ := zero_cells GB.out
              obtain ⟨k0, k1, k2, k3, k4⟩ := five_frozen GB.out
              have hne' : ¬ nb = na := fun h => hn h.symm
              refine wpAnyH_ready (rs := [10]) (by kernel_rfl) (by simp) ?_
              refine AllReadyH.cons rfl (fun K hK => ?_) AllReadyH.nil
              go_simp
              refine hK.out _ _ (touch_set hV11.out qa _ _ _ _ _) (fun hHeld => ?_)
              clear hK K hHeld
              (try simp only [Act.put, List.setIfInBounds_toArray, List.set_cons_zero, List.set_cons_succ])
              refine wpAnyH_ready (rs := [11]) (by kernel_rfl) (by simp) ?_
              refine AllReadyH.cons rfl (fun K hK => ?_) AllReadyH.nil
              go_simp
              refine hK.out _ _ (touch_set (touch_set hV11.out qa _ _ _ _ _) qb _ _ _ _ _) (fun hHeld => ?_)
              clear hK K hHeld
              (try simp only [Act.put, List.setIfInBounds_toArray, List.set_cons_zero, List.set_cons_succ])
              refine wpAnyH_done (by kernel_rfl) ?_ _
              go_wp2_with fail
              go_meet
              exact ⟨na, nb, rfl, rfl, touch_far (blk_set5 GA.out _ _ _ _ _) hn _ _ _ _ _, blk_set5 (touch_far GB.out hne' _ _ _ _ _) _ _ _ _ _, hn, qa, qb, touch_set (touch_set hV11.out qa _ _ _ _ _) qb _ _ _ _ _⟩
        · go_simp
          refine hK.out _ _ (show BelS W _ from bl_alloc hV1.out _) (fun hHeld => ?_)
          clear hK K hHeld
          (try simp only [Act.put, List.setIfInBounds_toArray, List.set_cons_zero, List.set_cons_succ])
          refine wpAnyH_abs (fun V12 hW => ?_)
          have hV12 : Hid (Below W.heap.size W V12) := by rw [hW]; exact bl_alloc hV1.out _
          have gB12 : Hid (V12.heap[V1.heap.size]? = some (.cells zeroA 115 (0, 0))) := by rw [hW]; exact blk_new _ _
          have hgB : Hid (W.heap.size ≤ V1.heap.size) := hV1.out.size
          clear hW
          refine wpAnyH_ready (rs := [7, 8]) (by kernel_rfl) (by simp) ?_
          refine AllReadyH.cons rfl (fun K hK => ?_) (AllReadyH.cons rfl (fun K hK => ?_) (AllReadyH.nil))
          · go_simp
            refine (FC2.out V12 hV12.out).mono ?_
            rintro e V13 ⟨rfl, hb⟩
            refine hK.out _ _ (show BelS W V13 from bl_step hV12.out hb) (fun hHeld => ?_)
            clear hK K hHeld
            (try simp only [Act.put, List.setIfInBounds_toArray, List.set_cons_zero, List.set_cons_succ])
            have hV13 := Lib.hid (bl_step hV12.out hb)
            have gB13 := Lib.hid (blk_below gB12.out hb)
            clear hb
            refine wpAnyH_ready (rs := [8]) (by kernel_rfl) (by simp) ?_
            refine AllReadyH.cons rfl (fun K hK => ?_) (AllReadyH.nil)
            · go_simp
              refine hK.out _ _ (show BelS W _ from bl_alloc hV13.out _) (fun hHeld => ?_)
              clear hK K hHeld
              (try simp only [Act.put, List.setIfInBounds_toArray, List.set_cons_zero, List.set_cons_succ])
              refine wpAnyH_abs (fun V14 hW => ?_)
              have hV14 : Hid (Below W.heap.size W V14) := by rw [hW]; exact bl_alloc hV13.out _
              have gA14 : Hid (V14.heap[V13.heap.size]? = some (.cells zeroA 115 (0, 0))) := by rw [hW]; exact blk_new _ _
              have gB14 := Lib.hid (blk_alloc gB13.out (.cells zeroA 115))
              rw [← hW] at gB14
              have hne : Hid (V13.heap.size ≠ V1.heap.size) := Nat.ne_of_gt (blk_lt gB13.out)
              have hgA : Hid (W.heap.size ≤ V13.heap.size) := hV13.out.size
              clear hW
              obtain ⟨na, hna⟩ : ∃ n, n = V13.heap.size := ⟨_, rfl⟩
              obtain ⟨nb, hnb⟩ : ∃ n, n = V1.heap.size := ⟨_, rfl⟩
              have qa : W.heap.size ≤ na := by rw [hna]; exact hgA.out
              have qb : W.heap.size ≤ nb := by rw [hnb]; exact hgB.out
              have hn : na ≠ nb := by rw [hna, hnb]; exact hne.out
              have GA : Hid (V14.heap[na]? = some (.cells zeroA 115 (0, 0))) := by rw [hna]; exact gA14.out
              have GB : Hid (V14.heap[nb]? = some (.cells zeroA 115 (0, 0))) := by rw [hnb]; exact gB14.out
              rw [← hna, ← hnb]
              clear hna hnb c0 c1 c2 c3' c4' c5 e0 e1 e2 e3 e4 e5 d0 d1 d2 d3 d4 d5 d6
              obtain ⟨e0, e1, e2, e3, e4⟩ := zero_cells GA.out
              obtain ⟨f0, f1, f2, f3, f4⟩ := five_frozen GA.out
              obtain ⟨d0, d1, d2, d3, d4⟩ := zero_cells GB.out
              obtain ⟨k0, k1, k2, k3, k4⟩ := five_frozen GB.out
              have hne' : ¬ nb = na := fun h => hn h.symm
              refine wpAnyH_ready (rs := [10]) (by kernel_rfl) (by simp) ?_
              refine AllReadyH.cons rfl (fun K hK => ?_) AllReadyH.nil
              go_simp
              refine hK.out _ _ (touch_set hV14.out qa _ _ _ _ _) (fun hHeld => ?_)
              clear hK K hHeld
              (try simp only [Act.put, List.setIfInBounds_toArray, List.set_cons_zero, List.set_cons_succ])
              refine wpAnyH_ready (rs := [11]) (by kernel_rfl) (by simp) ?_
              refine AllReadyH.cons rfl (fun K hK => ?_) AllReadyH.nil
              go_simp
              refine hK.out _ _ (touch_set (touch_set hV14.out qa _ _ _ _ _) qb _ _ _ _ _) (fun hHeld => ?_)
              clear hK K hHeld
              (try simp only [Act.put, List.setIfInBounds_toArray, List.set_cons_zero, List.set_cons_succ])
              refine wpAnyH_done (by kernel_rfl) ?_ _
              go_wp2_with fail
              go_meet
              exact ⟨na, nb, rfl, rfl, touch_far (blk_set5 GA.out _ _ _ _ _) hn _ _ _ _ _, blk_set5 (touch_far GB.out hne' _ _ _ _ _) _ _ _ _ _, hn, qa, qb, touch_set (touch_set hV14.out qa _ _ _ _ _) qb _ _ _ _ _⟩
          · go_simp
            refine hK.out _ _ (show BelS W _ from bl_alloc hV12.out _) (fun hHeld => ?_)
            clear hK K hHeld
            (try simp only [Act.put, List.setIfInBounds_toArray, List.set_cons_zero, List.set_cons_succ])
            refine wpAnyH_abs (fun V15 hW => ?_)
            have hV15 : Hid (Below W.heap.size W V15) := by rw [hW]; exact bl_alloc hV12.out _
            have gA15 : Hid (V15.heap[V12.heap.size]? = some (.cells zeroA 115 (0, 0))) := by rw [hW]; exact blk_new _ _
            have gB15 := Lib.hid (blk_alloc gB12.out (.cells zeroA 115))
            rw [← hW] at gB15
            have hne : Hid (V12.heap.size ≠ V1.heap.size) := Nat.ne_of_gt (blk_lt gB12.out)
            have hgA : Hid (W.heap.size ≤ V12.heap.size) := hV12.out.size
            clear hW
            refine wpAnyH_ready (rs := [7]) (by kernel_rfl) (by simp) ?_
            refine AllReadyH.cons rfl (fun K hK => ?_) (AllReadyH.nil)
            · go_simp
              refine (FC2.out V15 hV15.out).mono ?_
              rintro e V16 ⟨rfl, hb⟩
              refine hK.out _ _ (show BelS W V16 from bl_step hV15.out hb) (fun hHeld => ?_)
              clear hK K hHeld
              (try simp only [Act.put, List.setIfInBounds_toArray, List.set_cons_zero, List.set_cons_succ])
              have hV16 := Lib.hid (bl_step hV15.out hb)
              have gA16 := Lib.hid (blk_below gA15.out hb)
              have gB16 := Lib.hid (blk_below gB15.out hb)
              clear hb
              obtain ⟨na, hna⟩ : ∃ n, n = V12.heap.size := ⟨_, rfl⟩
              obtain ⟨nb, hnb⟩ : ∃ n, n = V1.heap.size := ⟨_, rfl⟩
              have qa : W.heap.size ≤ na := by rw [hna]; exact hgA.out
              have qb : W.heap.size ≤ nb := by rw [hnb]; exact hgB.out
              have hn : na ≠ nb := by rw [hna, hnb]; exact hne.out
              have GA : Hid (V16.heap[na]? = some (.cells zeroA 115 (0, 0))) := by rw [hna]; exact gA16.out
              have GB : Hid (V16.heap[nb]? = some (.cells zeroA 115 (0, 0))) := by rw [hnb]; exact gB16.out
              rw [← hna, ← hnb]
              clear hna hnb c0 c1 c2 c3' c4' c5 e0 e1 e2 e3 e4 e5 d0 d1 d2 d3 d4 d5 d6
              obtain ⟨e0, e1, e2, e3, e4⟩ := zero_cells GA.out
              obtain ⟨f0, f1, f2, f3, f4⟩ := five_frozen GA.out
              obtain ⟨d0, d1, d2, d3, d4⟩ := zero_cells GB.out
              obtain ⟨k0, k1, k2, k3, k4⟩ := five_frozen GB.out
              have hne' : ¬ nb = na := fun h => hn h.symm
              refine wpAnyH_ready (rs := [10]) (by kernel_rfl) (by simp) ?_
              refine AllReadyH.cons rfl (fun K hK => ?_) AllReadyH.nil
              go_simp
              refine hK.out _ _ (touch_set hV16.out qa _ _ _ _ _) (fun hHeld => ?_)
              clear hK K hHeld
              (try simp only [Act.put, List.setIfInBounds_toArray, List.set_cons_zero, List.set_cons_succ])
              refine wpAnyH_ready (rs := [11]) (by kernel_rfl) (by simp) ?_
              refine AllReadyH.cons rfl (fun K hK => ?_) AllReadyH.nil
              go_simp
              refine hK.out _ _ (touch_set (touch_set hV16.out qa _ _ _ _ _) qb _ _ _ _ _) (fun hHeld => ?_)
              clear hK K hHeld
              (try simp only [Act.put, List.setIfInBounds_toArray, List.set_cons_zero, List.set_cons_succ])
              refine wpAnyH_done (by kernel_rfl) ?_ _
              go_wp2_with fail
              go_meet
              exact ⟨na, nb, rfl, rfl, touch_far (blk_set5 GA.out _ _ _ _ _) hn _ _ _ _ _, blk_set5 (touch_far GB.out hne' _ _ _ _ _) _ _ _ _ _, hn, qa, qb, touch_set (touch_set hV16.out qa _ _ _ _ _) qb _ _ _ _ _⟩
      · go_simp
        refine hK.out _ _ (show BelS W _ from bl_alloc hV0.out _) (fun hHeld => ?_)
        clear hK K hHeld
        (try simp only [Act.put, List.setIfInBounds_toArray, List.set_cons_zero, List.set_cons_succ])
        refine wpAnyH_abs (fun V17 hW => ?_)
        have hV17 : Hid (Below W.heap.size W V17) := by rw [hW]; exact bl_alloc hV0.out _
        have gA17 : Hid (V17.heap[W.heap.size]? = some (.cells zeroA 115 (0, 0))) := by rw [hW]; exact blk_new _ _
        have hgA : Hid (W.heap.size ≤ W.heap.size) := hV0.out.size
        clear hW
        refine wpAnyH_ready (rs := [3, 9]) (by kernel_rfl) (by simp) ?_
        refine AllReadyH.cons rfl (fun K hK => ?_) (AllReadyH.cons rfl (fun K hK => ?_) (AllReadyH.nil))
        · go_simp
          refine (FC1.out V17 hV17.out).mono ?_
          rintro e V18 ⟨rfl, hb⟩
          refine hK.out _ _ (show BelS W V18 from bl_step hV17.out hb) (fun hHeld => ?_)
          clear hK K hHeld
          (try simp only [Act.put, List.setIfInBounds_toArray, List.set_cons_zero, List.set_cons_succ])
          have hV18 := Lib.hid (bl_step hV17.out hb)
          have gA18 := Lib.hid (blk_below gA17.out hb)
          clear hb
          refine wpAnyH_ready (rs := [7, 9]) (by kernel_rfl) (by simp) ?_
          refine AllReadyH.cons rfl (fun K hK => ?_) (AllReadyH.cons rfl (fun K hK => ?_) (AllReadyH.nil))
          · go_simp
            refine (FC2.out V18 hV18.out).mono ?_
            rintro e V19 ⟨rfl, hb⟩
            refine hK.out _ _ (show BelS W V19 from bl_step hV18.out hb) (fun hHeld => ?_)
            clear hK K hHeld
            (try simp only [Act.put, List.setIfInBounds_toArray, List.set_cons_zero, List.set_cons_succ])
            have hV19 := Lib.hid (bl_step hV18.out hb)
            have gA19 := Lib.hid (blk_below gA18.out hb)
            clear hb
            refine wpAnyH_ready (rs := [9]) (by kernel_rfl) (by simp) ?_
            refine AllReadyH.cons rfl (fun K hK => ?_) (AllReadyH.nil)
            · go_simp
              refine hK.out _ _ (show BelS W _ from bl_alloc hV19.out _) (fun hHeld => ?_)
              clear hK K hHeld
              (try simp only [Act.put, List.setIfInBounds_toArray, List.set_cons_zero, List.set_cons_succ])
              refine wpAnyH_abs (fun V20 hW => ?_)
              have hV20 : Hid (Below W.heap.size W V20) := by rw [hW]; exact bl_alloc hV19.out _
              have gA20 := Lib.hid (blk_alloc gA19.out (.cells zeroA 115))
              rw [← hW] at gA20
              have gB20 : Hid (V20.heap[V19.heap.size]? = some (.cells zeroA 115 (0, 0))) := by rw [hW]; exact blk_new _ _
              have hne : Hid (W.heap.size ≠ V19.heap.size) := Nat.ne_of_lt (blk_lt gA19.out)
              have hgB : Hid (W.heap.size ≤ V19.heap.size) := hV19.out.size
              clear hW
              obtain ⟨na, hna⟩ : ∃ n, n = W.heap.size := ⟨_, rfl⟩
              obtain ⟨nb, hnb⟩ : ∃ n, n = V19.heap.size := ⟨_, rfl⟩
              have qa : W.heap.size ≤ na := by rw [hna]; exact hgA.out
              have qb : W.heap.size ≤ nb := by rw [hnb]; exact hgB.out
              have hn : na ≠ nb := by rw [hna, hnb]; exact hne.out
              have GA : Hid (V20.heap[na]? = some (.cells zeroA 115 (0, 0))) := by rw [hna]; exact gA20.out
              have GB : Hid (V20.heap[nb]? = some (.cells zeroA 115 (0, 0))) := by rw [hnb]; exact gB20.out
              rw [← hna, ← hnb]
              clear hna hnb c0 c1 c2 c3' c4' c5 e0 e1 e2 e3 e4 e5 d0 d1 d2 d3 d4 d5 d6
              obtain ⟨e0, e1, e2, e3, e4⟩ := zero_cells GA.out
              obtain ⟨f0, f1, f2, f3, f4⟩ := five_frozen GA.out
              obtain ⟨d0, d1, d2, d3, d4⟩ := zero_cells GB.out
              obtain ⟨k0, k1, k2, k3, k4⟩ := five_frozen GB.out
              have hne' : ¬ nb = na := fun h => hn h.symm
              refine wpAnyH_ready (rs := [10]) (by kernel_rfl) (by simp) ?_
              refine AllReadyH.cons rfl (fun K hK => ?_) AllReadyH.nil
              go_simp
              refine hK.out _ _ (touch_set hV20.out qa _ _ _ _ _) (fun hHeld => ?_)
              clear hK K hHeld
              (try simp only [Act.put, List.setIfInBounds_toArray, List.set_cons_zero, List.set_cons_succ])
              refine wpAnyH_ready (rs := [11]) (by kernel_rfl) (by simp) ?_
              refine AllReadyH.cons rfl (fun K hK => ?_) AllReadyH.nil
              go_simp
              refine hK.out _ _ (touch_set (touch_set hV20.out qa _ _ _ _ _) qb _ _ _ _ _) (fun hHeld => ?_)
              clear hK K hHeld
              (try simp only [Act.put, List.setIfInBounds_toArray, List.set_cons_zero, List.set_cons_succ])
              refine wpAnyH_done (by kernel_rfl) ?_ _
              go_wp2_with fail
              go_meet
              exact ⟨na, nb, rfl, rfl, touch_far (blk_set5 GA.out _ _ _ _ _) hn _ _ _ _ _, blk_set5 (touch_far GB.out hne' _ _ _ _ _) _ _ _ _ _, hn, qa, qb, touch_set (touch_set hV20.out qa _ _ _ _ _) qb _ _ _ _ _⟩
          · go_simp
            refine hK.out _ _ (show BelS W _ from bl_alloc hV18.out _) (fun hHeld => ?_)
            clear hK K hHeld
            (try simp only [Act.put, List.setIfInBounds_toArray, List.set_cons_zero, List.set_cons_succ])
            refine wpAnyH_abs (fun V21 hW => ?_)
            have hV21 : Hid (Below W.heap.size W V21) := by rw [hW]; exact bl_alloc hV18.out _
            have gA21 := Lib.hid (blk_alloc gA18.out (.cells zeroA 115))
            rw [← hW] at gA21
            have gB21 : Hid (V21.heap[V18.heap.size]? = some (.cells zeroA 115 (0, 0))) := by rw [hW]; exact blk_new _ _
            have hne : Hid (W.heap.size ≠ V18.heap.size) := Nat.ne_of_lt (blk_lt gA18.out)
            have hgB : Hid (W.heap.size ≤ V18.heap.size) := hV18.out.size
            clear hW
            refine wpAnyH_ready (rs := [7]) (by kernel_rfl) (by simp) ?_
            refine AllReadyH.cons rfl (fun K hK => ?_) (AllReadyH.nil)
            · go_simp
              refine (FC2.out V21 hV21.out).mono ?_
              rintro e V22 ⟨rfl, hb⟩
              refine hK.out _ _ (show BelS W V22 from bl_step hV21.out hb) (fun hHeld => ?_)
              clear hK K hHeld
              (try simp only [Act.put, List.setIfInBounds_toArray, List.set_cons_zero, List.set_cons_succ])
              have hV22 := Lib.hid (bl_step hV21.out hb)
              have gA22 := Lib.hid (blk_below gA21.out hb)
              have gB22 := Lib.hid (blk_below gB21.out hb)
              clear hb
              obtain ⟨na, hna⟩ : ∃ n, n = W.heap.size := ⟨_, rfl⟩
              obtain ⟨nb, hnb⟩ : ∃ n, n = V18.heap.size := ⟨_, rfl⟩
              have qa : W.heap.size ≤ na := by rw [hna]; exact hgA.out
              have qb : W.heap.size ≤ nb := by rw [hnb]; exact hgB.out
              have hn : na ≠ nb := by rw [hna, hnb]; exact hne.out
              have GA : Hid (V22.heap[na]? = some (.cells zeroA 115 (0, 0))) := by rw [hna]; exact gA22.out
              have GB : Hid (V22.heap[nb]? = some (.cells zeroA 115 (0, 0))) := by rw [hnb]; exact gB22.out
              rw [← hna, ← hnb]
              clear hna hnb c0 c1 c2 c3' c4' c5 e0 e1 e2 e3 e4 e5 d0 d1 d2 d3 d4 d5 d6
              obtain ⟨e0, e1, e2, e3, e4⟩ := zero_cells GA.out
              obtain ⟨f0, f1, f2, f3, f4⟩ := five_frozen GA.out
              obtain ⟨d0, d1, d2, d3, d4⟩ := zero_cells GB.out
              obtain ⟨k0, k1, k2, k3, k4⟩ := five_frozen GB.out
              have hne' : ¬ nb = na := fun h => hn h.symm
              refine wpAnyH_ready (rs := [10]) (by kernel_rfl) (by simp) ?_
              refine AllReadyH.cons rfl (fun K hK => ?_) AllReadyH.nil
              go_simp
              refine hK.out _ _ (touch_set hV22.out qa _ _ _ _ _) (fun hHeld => ?_)
              clear hK K hHeld
              (try simp only [Act.put, List.setIfInBounds_toArray, List.set_cons_zero, List.set_cons_succ])
              refine wpAnyH_ready (rs := [11]) (by kernel_rfl) (by simp) ?_
              refine AllReadyH.cons rfl (fun K hK => ?_) AllReadyH.nil
              go_simp
              refine hK.out _ _ (touch_set (touch_set hV22.out qa _ _ _ _ _) qb _ _ _ _ _) (fun hHeld => ?_)
              clear hK K hHeld
              (try simp only [Act.put, List.setIfInBounds_toArray, List.set_cons_zero, List.set_cons_succ])
              refine wpAnyH_done (by kernel_rfl) ?_ _
              go_wp2_with fail
              go_meet
              exact ⟨na, nb, rfl, rfl, touch_far (blk_set5 GA.out _ _ _ _ _) hn _ _ _ _ _, blk_set5 (touch_far GB.out hne' _ _ _ _ _) _ _ _ _ _, hn, qa, qb, touch_set (touch_set hV22.out qa _ _ _ _ _) qb _ _ _ _ _⟩
        · go_simp
          refine hK.out _ _ (show BelS W _ from bl_alloc hV17.out _) (fun hHeld => ?_)
          clear hK K hHeld
          (try simp only [Act.put, List.setIfInBounds_toArray, List.set_cons_zero, List.set_cons_succ])
          refine wpAnyH_abs (fun V23 hW => ?_)
          have hV23 : Hid (Below W.heap.size W V23) := by rw [hW]; exact bl_alloc hV17.out _
          have gA23 := Lib.hid (blk_alloc gA17.out (.cells zeroA 115))
          rw [← hW] at gA23
          have gB23 : Hid (V23.heap[V17.heap.size]? = some (.cells zeroA 115 (0, 0))) := by rw [hW]; exact blk_new _ _
          have hne : Hid (W.heap.size ≠ V17.heap.size) := Nat.ne_of_lt (blk_lt gA17.out)
          have hgB : Hid (W.heap.size ≤ V17.heap.size) := hV17.out.size
          clear hW
          refine wpAnyH_ready (rs := [3]) (by kernel_rfl) (by simp) ?_
          refine AllReadyH.cons rfl (fun K hK => ?_) (AllReadyH.nil)
          · go_simp
            refine (FC1.out V23 hV23.out).mono ?_
            rintro e V24 ⟨rfl, hb⟩
            refine hK.out _ _ (show BelS W V24 from bl_step hV23.out hb) (fun hHeld => ?_)
            clear hK K hHeld
            (try simp only [Act.put, List.setIfInBounds_toArray, List.set_cons_zero, List.set_cons_succ])
            have hV24 := Lib.hid (bl_step hV23.out hb)
            have gA24 := Lib.hid (blk_below gA23.out hb)
            have gB24 := Lib.hid (blk_below gB23.out hb)
            clear hb
            refine wpAnyH_ready (rs := [7]) (by kernel_rfl) (by simp) ?_
            refine AllReadyH.cons rfl (fun K hK => ?_) (AllReadyH.nil)
            · go_simp
              refine (FC2.out V24 hV24.out).mono ?_
              rintro e V25 ⟨rfl, hb⟩
              refine hK.out _ _ (show BelS W V25 from bl_step hV24.out hb) (fun hHeld => ?_)
              clear hK K hHeld
              (try simp only [Act.put, List.setIfInBounds_toArray, List.set_cons_zero, List.set_cons_succ])
              have hV25 := Lib.hid (bl_step hV24.out hb)
              have gA25 := Lib.hid (blk_below gA24.out hb)
              have gB25 := Lib.hid (blk_below gB24.out hb)
              clear hb
              obtain ⟨na, hna⟩ : ∃ n, n = W.heap.size := ⟨_, rfl⟩
              obtain ⟨nb, hnb⟩ : ∃ n, n = V17.heap.size := ⟨_, rfl⟩
              have qa : W.heap.size ≤ na := by rw [hna]; exact hgA.out
              have qb : W.heap.size ≤ nb := by rw [hnb]; exact hgB.out
              have hn : na ≠ nb := by rw [hna, hnb]; exact hne.out
              have GA : Hid (V25.heap[na]? = some (.cells zeroA 115 (0, 0))) := by rw [hna]; exact gA25.out
              have GB : Hid (V25.heap[nb]? = some (.cells zeroA 115 (0, 0))) := by rw [hnb]; exact gB25.out
              rw [← hna, ← hnb]
              clear hna hnb c0 c1 c2 c3' c4' c5 e0 e1 e2 e3 e4 e5 d0 d1 d2 d3 d4 d5 d6
              obtain ⟨e0, e1, e2, e3, e4⟩ := zero_cells GA.out
              obtain ⟨f0, f1, f2, f3, f4⟩ := five_frozen GA.out
              obtain ⟨d0, d1, d2, d3, d4⟩ := zero_cells GB.out
              obtain ⟨k0, k1, k2, k3, k4⟩ := five_frozen GB.out
              have hne' : ¬ nb = na := fun h => hn h.symm
              refine wpAnyH_ready (rs := [10]) (by kernel_rfl) (by simp) ?_
              refine AllReadyH.cons rfl (fun K hK => ?_) AllReadyH.nil
              go_simp
              refine hK.out _ _ (touch_set hV25.out qa _ _ _ _ _) (fun hHeld => ?_)
              clear hK K hHeld
              (try simp only [Act.put, List.setIfInBounds_toArray, List.set_cons_zero, List.set_cons_succ])
              refine wpAnyH_ready (rs := [11]) (by kernel_rfl) (by simp) ?_
              refine AllReadyH.cons rfl (fun K hK => ?_) AllReadyH.nil
              go_simp
              refine hK.out _ _ (touch_set (touch_set hV25.out qa _ _ _ _ _) qb _ _ _ _ _) (fun hHeld => ?_)
              clear hK K hHeld
              (try simp only [Act.put, List.setIfInBounds_toArray, List.set_cons_zero, List.set_cons_succ])
              refine wpAnyH_done (by kernel_rfl) ?_ _
              go_wp2_with fail
              go_meet
              exact ⟨na, nb, rfl, rfl, touch_far (blk_set5 GA.out _ _ _ _ _) hn _ _ _ _ _, blk_set5 (touch_far GB.out hne' _ _ _ _ _) _ _ _ _ _, hn, qa, qb, touch_set (touch_set hV25.out qa _ _ _ _ _) qb _ _ _ _ _⟩
      · go_simp
        refine hK.out _ _ (show BelS W _ from bl_alloc hV0.out _) (fun hHeld => ?_)
        clear hK K hHeld
        (try simp only [Act.put, List.setIfInBounds_toArray, List.set_cons_zero, List.set_cons_succ])
        refine wpAnyH_abs (fun V26 hW => ?_)
        have hV26 : Hid (Below W.heap.size W V26) := by rw [hW]; exact bl_alloc hV0.out _
        have gB26 : Hid (V26.heap[W.heap.size]? = some (.cells zeroA 115 (0, 0))) := by rw [hW]; exact blk_new _ _
        have hgB : Hid (W.heap.size ≤ W.heap.size) := hV0.out.size
        clear hW
        refine wpAnyH_ready (rs := [3, 8]) (by kernel_rfl) (by simp) ?_
        refine AllReadyH.cons rfl (fun K hK => ?_) (AllReadyH.cons rfl (fun K hK => ?_) (AllReadyH.nil))
        · go_simp
          refine (FC1.out V26 hV26.out).mono ?_
          rintro e V27 ⟨rfl, hb⟩
          refine hK.out _ _ (show BelS W V27 from bl_step hV26.out hb) (fun hHeld => ?_)
          clear hK K hHeld
          (try simp only [Act.put, List.setIfInBounds_toArray, List.set_cons_zero, List.set_cons_succ])
          have hV27 := Lib.hid (bl_step hV26.out hb)
          have gB27 := Lib.hid (blk_below gB26.out hb)
          clear hb
          refine wpAnyH_ready (rs := [7, 8]) (by kernel_rfl) (by simp) ?_
          refine AllReadyH.cons rfl (fun K hK => ?_) (AllReadyH.cons rfl (fun K hK => ?_) (AllReadyH.nil))
          · go_simp
            refine (FC2.out V27 hV27.out).mono ?_
            rintro e V28 ⟨rfl, hb⟩
            refine hK.out _ _ (show BelS W V28 from bl_step hV27.out hb) (fun hHeld => ?_)
            clear hK K hHeld
            (try simp only [Act.put, List.setIfInBounds_toArray, List.set_cons_zero, List.set_cons_succ])
            have hV28 := Lib.hid (bl_step hV27.out hb)
            have gB28 := Lib.hid (blk_below gB27.out hb)
            clear hb
            refine wpAnyH_ready (rs := [8]) (by kernel_rfl) (by simp) ?_
            refine AllReadyH.cons rfl (fun K hK => ?_) (AllReadyH.nil)
            · go_simp
              refine hK.out _ _ (show BelS W _ from bl_alloc hV28.out _) (fun hHeld => ?_)
              clear hK K hHeld
              (try simp only [Act.put, List.setIfInBounds_toArray, List.set_cons_zero, List.set_cons_succ])
              refine wpAnyH_abs (fun V29 hW => ?_)
              have hV29 : Hid (Below W.heap.size W V29) := by rw [hW]; exact bl_alloc hV28.out _
              have gA29 : Hid (V29.heap[V28.heap.size]? = some (.cells zeroA 115 (0, 0))) := by rw [hW]; exact blk_new _ _
              have gB29 := Lib.hid (blk_alloc gB28.out (.cells zeroA 115))
              rw [← hW] at gB29
              have hne : Hid (V28.heap.size ≠ W.heap.size) := Nat.ne_of_gt (blk_lt gB28.out)
              have hgA : Hid (W.heap.size ≤ V28.heap.size) := hV28.out.size
              clear hW
              obtain ⟨na, hna⟩ : ∃ n, n = V28.heap.size := ⟨_, rfl⟩
              obtain ⟨nb, hnb⟩ : ∃ n, n = W.heap.size := ⟨_, rfl⟩
              have qa : W.heap.size ≤ na := by rw [hna]; exact hgA.out
              have qb : W.heap.size ≤ nb := by rw [hnb]; exact hgB.out
              have hn : na ≠ nb := by rw [hna, hnb]; exact hne.out
              have GA : Hid (V29.heap[na]? = some (.cells zeroA 115 (0, 0))) := by rw [hna]; exact gA29.out
              have GB : Hid (V29.heap[nb]? = some (.cells zeroA 115 (0, 0))) := by rw [hnb]; exact gB29.out
              rw [← hna, ← hnb]
              clear hna hnb c0 c1 c2 c3' c4' c5 e0 e1 e2 e3 e4 e5 d0 d1 d2 d3 d4 d5 d6
              obtain ⟨e0, e1, e2, e3, e4⟩ := zero_cells GA.out
              obtain ⟨f0, f1, f2, f3, f4⟩ := five_frozen GA.out
              obtain ⟨d0, d1, d2, d3, d4⟩ := zero_cells GB.out
              obtain ⟨k0, k1, k2, k3, k4⟩ := five_frozen GB.out
              have hne' : ¬ nb = na := fun h => hn h.symm
              refine wpAnyH_ready (rs := [10]) (by kernel_rfl) (by simp) ?_
              refine AllReadyH.cons rfl (fun K hK => ?_) AllReadyH.nil
              go_simp
              refine hK.out _ _ (touch_set hV29.out qa _ _ _ _ _) (fun hHeld => ?_)
              clear hK K hHeld
              (try simp only [Act.put, List.setIfInBounds_toArray, List.set_cons_zero, List.set_cons_succ])
              refine wpAnyH_ready (rs := [11]) (by kernel_rfl) (by simp) ?_
              refine AllReadyH.cons rfl (fun K hK => ?_) AllReadyH.nil
              go_simp
              refine hK.out _ _ (touch_set (touch_set hV29.out qa _ _ _ _ _) qb _ _ _ _ _) (fun hHeld => ?_)
              clear hK K hHeld
              (try simp only [Act.put, List.setIfInBounds_toArray, List.set_cons_zero, List.set_cons_succ])
              refine wpAnyH_done (by kernel_rfl) ?_ _
              go_wp2_with fail
              go_meet
              exact ⟨na, nb, rfl, rfl, touch_far (blk_set5 GA.out _ _ _ _ _) hn _ _ _ _ _, blk_set5 (touch_far GB.out hne' _ _ _ _ _) _ _ _ _ _, hn, qa, qb, touch_set (touch_set hV29.out qa _ _ _ _ _) qb _ _ _ _ _⟩
          · go_simp
            refine hK.out _ _ (show BelS W _ from bl_alloc hV27.out _) (fun hHeld => ?_)
            clear hK K hHeld
            (try simp only [Act.put, List.setIfInBounds_toArray, List.set_cons_zero, List.set_cons_succ])
            refine wpAnyH_abs (fun V30 hW => ?_)
            have hV30 : Hid (Below W.heap.size W V30) := by rw [hW]; exact bl_alloc hV27.out _
            have gA30 : Hid (V30.heap[V27.heap.size]? = some (.cells zeroA 115 (0, 0))) := by rw [hW]; exact blk_new _ _
            have gB30 := Lib.hid (blk_alloc gB27.out (.cells zeroA 115))
            rw [← hW] at gB30
            have hne : Hid (V27.heap.size ≠ W.heap.size) := Nat.ne_of_gt (blk_lt gB27.out)
            have hgA : Hid (W.heap.size ≤ V27.heap.size) := hV27.out.size
            clear hW
            refine wpAnyH_ready (rs := [7]) (by kernel_rfl) (by simp) ?_
            refine AllReadyH.cons rfl (fun K hK => ?_) (AllReadyH.nil)
            · go_simp
              refine (FC2.out V30 hV30.out).mono ?_
              rintro e V31 ⟨rfl, hb⟩
              refine hK.out _ _ (show BelS W V31 from bl_step hV30.out hb) (fun hHeld => ?_)
              clear hK K hHeld
              (try simp only [Act.put, List.setIfInBounds_toArray, List.set_cons_zero, List.set_cons_succ])
              have hV31 := Lib.hid (bl_step hV30.out hb)
              have gA31 := Lib.hid (blk_below gA30.out hb)
              have gB31 := Lib.hid (blk_below gB30.out hb)
              clear hb
              obtain ⟨na, hna⟩ : ∃ n, n = V27.heap.size := ⟨_, rfl⟩
              obtain ⟨nb, hnb⟩ : ∃ n, n = W.heap.size := ⟨_, rfl⟩
              have qa : W.heap.size ≤ na := by rw [hna]; exact hgA.out
              have qb : W.heap.size ≤ nb := by rw [hnb]; exact hgB.out
              have hn : na ≠ nb := by rw [hna, hnb]; exact hne.out
              have GA : Hid (V31.heap[na]? = some (.cells zeroA 115 (0, 0))) := by rw [hna]; exact gA31.out
              have GB : Hid (V31.heap[nb]? = some (.cells zeroA 115 (0, 0))) := by rw [hnb]; exact gB31.out
              rw [← hna, ← hnb]
              clear hna hnb c0 c1 c2 c3' c4' c5 e0 e1 e2 e3 e4 e5 d0 d1 d2 d3 d4 d5 d6
              obtain ⟨e0, e1, e2, e3, e4⟩ := zero_cells GA.out
              obtain ⟨f0, f1, f2, f3, f4⟩ := five_frozen GA.out
              obtain ⟨d0, d1, d2, d3, d4⟩ := zero_cells GB.out
              obtain ⟨k0, k1, k2, k3, k4⟩ := five_frozen GB.out
              have hne' : ¬ nb = na := fun h => hn h.symm
              refine wpAnyH_ready (rs := [10]) (by kernel_rfl) (by simp) ?_
              refine AllReadyH.cons rfl (fun K hK => ?_) AllReadyH.nil
              go_simp
              refine hK.out _ _ (touch_set hV31.out qa _ _ _ _ _) (fun hHeld => ?_)
              clear hK K hHeld
              (try simp only [Act.put, List.setIfInBounds_toArray, List.set_cons_zero, List.set_cons_succ])
              refine wpAnyH_ready (rs := [11]) (by kernel_rfl) (by simp) ?_
              refine AllReadyH.cons rfl (fun K hK => ?_) AllReadyH.nil
              go_simp
              refine hK.out _ _ (touch_set (touch_set hV31.out qa _ _ _ _ _) qb _ _ _ _ _) (fun hHeld => ?_)
              clear hK K hHeld
              (try simp only [Act.put, List.setIfInBounds_toArray, List.set_cons_zero, List.set_cons_succ])
              refine wpAnyH_done (by kernel_rfl) ?_ _
              go_wp2_with fail
              go_meet
              exact ⟨na, nb, rfl, rfl, touch_far (blk_set5 GA.out _ _ _ _ _) hn _ _ _ _ _, blk_set5 (touch_far GB.out hne' _ _ _ _ _) _ _ _ _ _, hn, qa, qb, touch_set (touch_set hV31.out qa _ _ _ _ _) qb _ _ _ _ _⟩
        · go_simp
          refine hK.out _ _ (show BelS W _ from bl_alloc hV26.out _) (fun hHeld => ?_)
          clear hK K hHeld
          (try simp only [Act.put, List.setIfInBounds_toArray, List.set_cons_zero, List.set_cons_succ])
          refine wpAnyH_abs (fun V32 hW => ?_)
          have hV32 : Hid (Below W.heap.size W V32) := by rw [hW]; exact bl_alloc hV26.out _
          have gA32 : Hid (V32.heap[V26.heap.size]? = some (.cells zeroA 115 (0, 0))) := by rw [hW]; exact blk_new _ _
          have gB32 := Lib.hid (blk_alloc gB26.out (.cells zeroA 115))
          rw [← hW] at gB32
          have hne : Hid (V26.heap.size ≠ W.heap.size) := Nat.ne_of_gt (blk_lt gB26.out)
          have hgA : Hid (W.heap.size ≤ V26.heap.size) := hV26.out.size
          clear hW
          refine wpAnyH_ready (rs := [3]) (by kernel_rfl) (by simp) ?_
          refine AllReadyH.cons rfl (fun K hK => ?_) (AllReadyH.nil)
          · go_simp
            refine (FC1.out V32 hV32.out).mono ?_
            rintro e V33 ⟨rfl, hb⟩
            refine hK.out _ _ (show BelS W V33 from bl_step hV32.out hb) (fun hHeld => ?_)
            clear hK K hHeld
            (try simp only [Act.put, List.setIfInBounds_toArray, List.set_cons_zero, List.set_cons_succ])
            have hV33 := Lib.hid (bl_step hV32.out hb)
            have gA33 := Lib.hid (blk_below gA32.out hb)
            have gB33 := Lib.hid (blk_below gB32.out hb)
            clear hb
            refine wpAnyH_ready (rs := [7]) (by kernel_rfl) (by simp) ?_
            refine AllReadyH.cons rfl (fun K hK => ?_) (AllReadyH.nil)
            · go_simp
              refine (FC2.out V33 hV33.out).mono ?_
              rintro e V34 ⟨rfl, hb⟩
              refine hK.out _ _ (show BelS W V34 from bl_step hV33.out hb) (fun hHeld => ?_)
              clear hK K hHeld
              (try simp only [Act.put, List.setIfInBounds_toArray, List.set_cons_zero, List.set_cons_succ])
              have hV34 := Lib.hid (bl_step hV33.out hb)
              have gA34 := Lib.hid (blk_below gA33.out hb)
              have gB34 := Lib.hid (blk_below gB33.out hb)
              clear hb
              obtain ⟨na, hna⟩ : ∃ n, n = V26.heap.size := ⟨_, rfl⟩
              obtain ⟨nb, hnb⟩ : ∃ n, n = W.heap.size := ⟨_, rfl⟩
              have qa : W.heap.size ≤ na := by rw [hna]; exact hgA.out
              have qb : W.heap.size ≤ nb := by rw [hnb]; exact hgB.out
              have hn : na ≠ nb := by rw [hna, hnb]; exact hne.out
              have GA : Hid (V34.heap[na]? = some (.cells zeroA 115 (0, 0))) := by rw [hna]; exact gA34.out
              have GB : Hid (V34.heap[nb]? = some (.cells zeroA 115 (0, 0))) := by rw [hnb]; exact gB34.out
              rw [← hna, ← hnb]
              clear hna hnb c0 c1 c2 c3' c4' c5 e0 e1 e2 e3 e4 e5 d0 d1 d2 d3 d4 d5 d6
              obtain ⟨e0, e1, e2, e3, e4⟩ := zero_cells GA.out
              obtain ⟨f0, f1, f2, f3, f4⟩ := five_frozen GA.out
              obtain ⟨d0, d1, d2, d3, d4⟩ := zero_cells GB.out
              obtain ⟨k0, k1, k2, k3, k4⟩ := five_frozen GB.out
              have hne' : ¬ nb = na := fun h => hn h.symm
              refine wpAnyH_ready (rs := [10]) (by kernel_rfl) (by simp) ?_
              refine AllReadyH.cons rfl (fun K hK => ?_) AllReadyH.nil
              go_simp
              refine hK.out _ _ (touch_set hV34.out qa _ _ _ _ _) (fun hHeld => ?_)
              clear hK K hHeld
              (try simp only [Act.put, List.setIfInBounds_toArray, List.set_cons_zero, List.set_cons_succ])
              refine wpAnyH_ready (rs := [11]) (by kernel_rfl) (by simp) ?_
              refine AllReadyH.cons rfl (fun K hK => ?_) AllReadyH.nil
              go_simp
              refine hK.out _ _ (touch_set (touch_set hV34.out qa _ _ _ _ _) qb _ _ _ _ _) (fun hHeld => ?_)
              clear hK K hHeld
              (try simp only [Act.put, List.setIfInBounds_toArray, List.set_cons_zero, List.set_cons_succ])
              refine wpAnyH_done (by kernel_rfl) ?_ _
              go_wp2_with fail
              go_meet
              exact ⟨na, nb, rfl, rfl, touch_far (blk_set5 GA.out _ _ _ _ _) hn _ _ _ _ _, blk_set5 (touch_far GB.out hne' _ _ _ _ _) _ _ _ _ _, hn, qa, qb, touch_set (touch_set hV34.out qa _ _ _ _ _) qb _ _ _ _ _⟩
    case rest =>
      clear c0 c1 c2 c3' c4' c5 e0 e1 e2 e3 e4 e5 d0 d1 d2 d3 d4 d5 d6 FC1 FC2 ls1 ls2 ls3 l1 l1'
      obtain ⟨b1, b2, rfl, rfl, q1, q2, hne, hg1, hg2, hbx⟩ := hcut
      have HBX := Lib.hid hbx
      have HQ1 := Lib.hid q1
      have HQ2 := Lib.hid q2
      have hne' : ¬ b2 = b1 := fun h => hne h.symm
      clear q1 q2 hbx
      go_wp2
      go_loopg [56] 5 (fun n i wr => ∃ k : Nat, k ≤ 5 ∧ n = 5 - k ∧ i = .int .i64 k ∧ (∃ A, wr.heap[b1]? = some (.cells A 115 (0, 0)) ∧ Hid (A.size = 5 ∧ (∀ j, j < k → A[j]? = some (.int .u64 (wd (M1 ^^^ M2) j))) ∧ (∀ j, k ≤ j → j < 5 → A[j]? = some (.int .u64 (wd M1 j))))) ∧ wr.heap[b2]? = some (.cells (setA M2) 115 (0, 0)) ∧ Hid (Below W.heap.size W wr))
      case atStart => exact ⟨0, by omega, by omega, rfl, ⟨_, HQ1.out, rfl, fun j hj => absurd hj (by omega), fun j _ hj => setA_get _ _ hj⟩, HQ2.out, HBX.out⟩
      case round =>
        obtain ⟨k, hk, hn, rfl, ⟨A, hA, HA⟩, hy, HB⟩ := hrel
        obtain ⟨hA5, hA0, hA1⟩ := HA.out
        clear HA
        by_cases hlt : k < 5
        · have c0 : wr.cell? ⟨b1, k, none⟩ = some (.int .u64 (wd M1 k)) := (blk_cell hA k).trans (hA1 k (Nat.le_refl _) hlt)
          have c1 : wr.cell? ⟨b2, k, none⟩ = some (.int .u64 (wd M2 k)) := (blk_cell hy k).trans (setA_get _ _ hlt)
          have f0 := blk_frozen hA k
          have HO : Hid _ := xor_step M1 M2 k hlt A hA5 hA0 hA1
          have HA' := Lib.hid hA
          have HY := Lib.hid hy
          have HA5 := Lib.hid hA5
          clear hA0 hA1 hA hy hA5
          have kI : (k : Int) < 5 := by omega
          go_wp2
          go_region
          go_wp2
          go_roundg (5 - (k + 1))
          case measure => omega
          case rel => exact ⟨k + 1, by omega, rfl, by go_num, ⟨_, blk_set (w := wr.drew) HA'.out k _, by simp [HA5.out], HO.out.1, HO.out.2⟩, blk_far (w := wr.drew) HY.out hne' _, (HB.out.drew).setCell (p := ⟨b1, k, none⟩) hg1 _⟩
        · obtain rfl : k = 5 := by omega
          obtain rfl : A = setA (M1 ^^^ M2) := setA_of hA5 (fun j hj => hA0 j (by omega))
          obtain ⟨c0, c1, c2, c3, c4⟩ := set_cells hA
          have HB2 := Lib.hid (bl_step HBW'.out HB.out)
          clear hA0 hA5 hy hA hA1 hn hk hlt
          go_wp2_with fail
          refine (list_calls _ _).mono ?_
          rintro e w4 ⟨v, rfl, ho, hb4⟩
          have HB4 := Lib.hid (bl_step HB2.out hb4)
          have HO := Lib.hid ho
          clear ho hb4
          go_wp2_with fail
          refine bodyPost_ret (v := .tuple #[v, iv (errAsk s l x f none h)]) (by rw [HE.out]; simp [results, Tryz.results34, go_sem]) rfl ⟨v, rfl, ?_, HB4.out⟩
          rw [HR.out]
          exact HO.out.mono HB2.out.size
  · have HC := Lib.hid (asked_bad s l x known f h _ _ vl _ hf (h1.below hbW) (h2.below hbW) (h3.below hbW))
    have HR : Hid (touchL s l known known' f x h = []) := if_neg he
    obtain ⟨er, her⟩ : ∃ q, q = errAsk s l x f none h := ⟨_, rfl⟩
    rw [← her] at he HC ⊢
    have h0' : (er != 0) = true := by simp [bne, he]
    clear he h1 h2 h3 hbW her
    go_enter Tryz.func34, Tryz.ntmps34
    go_wp2_with fail
    refine HC.out.mono ?_
    rintro e w1 ⟨q0, q1, B2, n2, c2, B3, n3, c3, B4, n4, c4, q5, rfl, hb1⟩
    have HB1 := Lib.hid (bl_step HBW.out hb1)
    clear hb1
    go_wp2_with fail
    refine bodyPost_ret (v := .tuple #[.slice none 0 0, iv er]) (by simp [results, Tryz.results34, go_sem]) rfl ⟨_, rfl, ?_, bl_alloc HB1.out _⟩
    rw [HR.out]
    exact Own.nil _ _
end Go.Proofs.YtjekioabkmijbaaGreatDoor
