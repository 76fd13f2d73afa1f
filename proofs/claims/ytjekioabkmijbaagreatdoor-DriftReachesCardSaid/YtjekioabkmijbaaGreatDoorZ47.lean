/- The reference's Landings. -/
import Derived.Test.YtjekioabkmijbaaGreatDoorZ46
set_option linter.unusedVariables false
set_option linter.unusedSimpArgs false
namespace Go.Proofs.YtjekioabkmijbaaGreatDoor
open Go.RowKit
theorem land_cells1 (x : DLand) : ∀ u ∈ DLand.cs x, u.oneCell' = true := by
  intro u hu
  simp [DLand.cs] at hu
  rcases hu with rfl | rfl | rfl <;> rfl
theorem any_takeP {q : DPlace → Bool} {l : List DPlace} {k : Nat} {y : DPlace} (h : l[k]? = some y) : (l.take (k + 1)).any q = ((l.take k).any q || q y) := by
  rw [List.take_add_one, h]; simp
theorem beachAt_no {s : DSea} {ws : List DWind} {f h c : Int} {p : DPlace} (hp : placeOk s p = true) (hb : ¬ 0 < p.b) : beachAt s ws f h c p = false := by
  have := (placeOk_iff.1 hp).2.1
  have e : p.b = 0 := by omega
  unfold beachAt; simp [e]
theorem beachAt_yes {s : DSea} {ws : List DWind} {f h c : Int} {p : DPlace} (hb : 0 < p.b) : beachAt s ws f h c p = (placesOf (movesM s ws f p h)).contains ⟨c, 0⟩ := by
  unfold beachAt
  have : (p.b != 0) = true := by simp [bne]; omega
  rw [this, Bool.true_and]
set_option maxHeartbeats 16000000 in
set_option maxRecDepth 20000 in
theorem landingsR_calls (s : DSea) (l : List DWind) (x : DLoss) (known f h : Int) (vh vt vl : Value) (w : World) (hf : 0 ≤ f ∧ f ≤ 255) (h1 : Sl intCs 1 w vh s.hts) (h2 : Sl DTide.cs 2 w vt s.tds) (h3 : Sl DWind.cs 9 w vl l) :
    Calls Tryz.prog 27 #[.agg #[iv s.cells, iv s.bands, vh, vt], vl, iv known, lossV x, .int .u8 f, iv h] w fun e w' =>
      ∃ v, e = .returned (.tuple #[v, iv (errAsk s l x f none h)]) ∧ Sl DLand.cs 3 w' v (landL s l known f x h) ∧ Below w.heap.size w w' := by
  obtain ⟨A1, k1, rfl, hk1, hlk1⟩ := h1.open_
  obtain ⟨A2, k2, rfl, hk2, hlk2⟩ := h2.open_
  obtain ⟨A3, k3, rfl, hc3, hl3⟩ := h3.open_
  have H1 := Lib.hid h1
  have H2 := Lib.hid h2
  have H3 := Lib.hid h3
  clear h1 h2 h3
  have HLL : Hid (landL s l known f x h = if errAsk s l x f none h = 0 then landOf (landAll s (counting l known) f x h) s.cells else []) := rfl
  go_enter Tryz.func27, Tryz.ntmps27
  go_wp2_with fail
  refine calls_abs (fun W hW => ?_)
  have hL : Hid (LossBox s x w.heap.size (w.heap.size + 1) A1 k1 A2 k2 W) := ⟨by rw [hW]; exact blk_alloc (blk_new _ _) _, by rw [hW]; exact blk_at _ (by simp)⟩
  have hB : Hid (Below w.heap.size w W) := by unfold Hid; rw [hW]; exact bl_alloc (bl_alloc (Below.refl _ _) _) _
  clear hW
  refine (askedR_calls s l x ⟨0, 0⟩ f h _ _ _ W (H1.out.below hB.out) (H2.out.below hB.out) (H3.out.below hB.out)).mono ?_
  rintro e w1 ⟨rfl, hb1⟩
  rw [errAsk_zero]
  have HB1 := Lib.hid (bl_step hB.out hb1)
  have HL1 := Lib.hid (hL.out.below hb1)
  clear hb1 hL hB
  obtain ⟨er, her⟩ : ∃ q, q = errAsk s l x f none h := ⟨_, rfl⟩
  rw [← her] at HLL ⊢
  have HER := Lib.hid her
  clear her
  by_cases he : er = 0
  rotate_left
  · have he' : (er != 0) = true := by simp [bne, he]
    have HR : Hid (landL s l known f x h = []) := by unfold Hid; rw [HLL.out, if_neg he]
    clear he HLL
    go_wp2_with fail
    refine bodyPost_ret (v := .tuple #[.slice none 0 0, iv er]) (by simp [results, Tryz.results27, go_sem]) rfl ⟨.slice none 0 0, by rw [← HER.out],  ?_, HB1.out⟩
    rw [HR.out]; exact Sl.nil _
  subst he
  have HR : Hid (landL s l known f x h = landOf (landAll s (counting l known) f x h) s.cells) := by unfold Hid; rw [HLL.out, if_pos rfl]
  have HF := Lib.hid (ask_facts HER.out.symm)
  clear HLL
  obtain ⟨N, hN⟩ : ∃ N, N = (h - x.hl).toNat := ⟨_, rfl⟩
  have hN2 : N ≤ 200 := by have := HF.out.near; omega
  have HN := Lib.hid hN
  clear hN
  have HNH : Hid (hoursN x (h - 1) = N) := by unfold Hid hoursN; rw [HN.out]; congr 1; omega
  have HLB := Lib.hid (lossOk_bounds HF.out.sea HF.out.loss)
  have hlb := HLB.out.2
  have hsb := seaOk_bounds HF.out.sea
  obtain ⟨hc1, hc2, _⟩ := hsb
  go_wp2_with fail
  refine (countingR_sl l _ known w1 HF.out.log (H3.out.below HB1.out)).mono ?_
  rintro e w2 ⟨vw, rfl, hs2, hb2⟩
  have HB2 := Lib.hid (bl_step HB1.out hb2)
  have HL2 := Lib.hid (HL1.out.below hb2)
  obtain ⟨ws, hws⟩ : ∃ q, q = counting l known := ⟨_, rfl⟩
  rw [← hws] at hs2 HR
  obtain ⟨A4, k4, rfl, _, _⟩ := hs2.open_
  have HK : Hid (Sky s ws f (.slice A1 s.hts.length k1) (.slice A2 s.tds.length k2) (.slice A4 ws.length k4) w2) := ⟨HF.out.sea, by rw [hws]; exact counting_winds known HF.out.log, HF.out.float, H1.out.below HB2.out, H2.out.below HB2.out, hs2⟩
  clear hs2 hb2 hws HB1 HL1
  obtain ⟨⟨a0, a1, a2, a3⟩, ⟨d0, d1, d2, d3, d4, d5, d6⟩, l0, l1⟩ := HL2.out.cells
  go_wp2_with fail
  refine (setsR_calls s ws f _ _ _ x h w2 HK.out HF.out.loss HF.out.near HF.out.hour.2).mono ?_
  rintro e w3 ⟨v2, rfl, hs3, hb3⟩
  rw [← HN.out] at hs3
  obtain ⟨A5, k5, rfl⟩ := hs3.slice' (refSets_len s ws f x (N + 1))
  have HM := Lib.hid hs3
  have HB3 := Lib.hid (bl_step HB2.out hb3)
  have HL3 := Lib.hid (HL2.out.below hb3)
  have HK3 := Lib.hid (HK.out.below hb3)
  clear hs3 hb3 a0 a1 a2 a3 d0 d1 d2 d3 d4 d5 d6 l0 l1 HB2 HL2 HK
  obtain ⟨LL, hLL⟩ : ∃ q, q = landAll s ws f x h := ⟨_, rfl⟩
  rw [← hLL] at HR
  have HLD : Hid (∀ c, LL c = if (refAt s ws f x c N).1 < 0 then none else some (refAt s ws f x c N)) := fun c => by rw [hLL, ← HNH.out]; exact landAll_ref (by omega)
  clear hLL
  obtain ⟨⟨a0, a1, a2, a3⟩, _, l0, _⟩ := HL3.out.cells
  go_wp2_with fail
  go_loopg [17, 18] s.cells.toNat (fun n u i wr => ∃ k : Nat, Hid (k ≤ s.cells.toNat) ∧ n = s.cells.toNat - k ∧ i = .int .i64 k ∧ Hid (Own DLand.cs 3 86 w3.heap.size wr u (landTo LL k)) ∧ Hid (Below w3.heap.size w3 wr))
  case atStart => exact ⟨0, Nat.zero_le _, by omega, rfl, Own.nil _ _, Below.refl _ _⟩
  case round =>
    clear a0 a1 a2 a3 l0
    obtain ⟨k, hk, hn, rfl, HO, HB⟩ := hrel
    have hk := hk.out
    obtain ⟨⟨a0, a1, a2, a3⟩, _, l0, _⟩ := (HL3.out.below HB.out).cells
    by_cases hlt : (k : Int) < s.cells
    · go_wp2_with fail
      go_loopg [19, 20, 21] N (fun n a b i wr2 => ∃ j : Nat, j ≤ N ∧ n = N - j ∧ i = .int .i64 j ∧ a = .int .i64 (refAt s ws f x (k : Int) j).1 ∧ b = .int .i64 (refAt s ws f x (k : Int) j).2 ∧ Hid (Below wr.heap.size wr wr2))
      case atStart => exact ⟨0, by omega, by omega, rfl, rfl, rfl, Below.refl _ _⟩
      case round =>
        clear a0 a1 a2 a3 l0
        obtain ⟨j, hj, hnj, rfl, rfl, rfl, HBJ⟩ := hrel
        have HBB := Lib.hid (bl_step HB.out HBJ.out)
        obtain ⟨ra, hra⟩ : ∃ q, q = (refAt s ws f x (k : Int) j).1 := ⟨_, rfl⟩
        obtain ⟨rb, hrb⟩ : ∃ q, q = (refAt s ws f x (k : Int) j).2 := ⟨_, rfl⟩
        have HRA : Hid (refAt s ws f x (k : Int) j = (ra, rb)) := by unfold Hid; rw [hra, hrb]
        rw [← hra, ← hrb]
        clear hra hrb
        by_cases hlj : j < N
        · obtain ⟨M, hM⟩ : ∃ q, q = placesOf (setAt s ws f x j) := ⟨_, rfl⟩
          obtain ⟨b, o, uu, rfl, cu, hsp⟩ := (HM.out.below HBB.out).get (by rw [refSets_len]; omega) j _ (refSets_get s ws f x (show j < N + 1 by omega))
          rw [← hM] at hsp
          have HMD := Lib.hid hM
          have HMK : Hid (∀ p ∈ M, placeOk s p = true) := by unfold Hid; rw [hM]; exact setAt_ok ws f HF.out.sea HF.out.loss j
          have hML : M.length ≤ 320 := by rw [hM]; exact places_len _
          obtain ⟨A6, k6, rfl, _, _⟩ := hsp.sl.open_
          have HSP := Lib.hid hsp
          have hlj1 : (j : Int) + 1 < (N : Int) + 1 := by omega
          obtain ⟨_, ⟨d0, d1, d2, d3, d4, d5, d6⟩, _, l1⟩ := (HL3.out.below HBB.out).cells
          have lb := World.block_lt_of_cell? _ _ cu
          have HCU := Lib.hid cu
          have hj0 : (0 : Int) ≤ (j : Int) := by omega
          have hj1 : (j : Int) < (N : Int) + 1 := by omega
          clear hsp hM
          go_wp2_with fail
          go_loopg [23, 24] M.length (fun n t i wrQ => ∃ q : Nat, q ≤ M.length ∧ n = M.length - q ∧ i = .int .i64 q ∧ t = .bool ((M.take q).any (beachAt s ws f (x.hl + (j : Int)) (k : Int))) ∧ Hid (Below wr.heap.size wr wrQ))
          case atStart => exact ⟨0, by omega, by omega, rfl, rfl, Below.refl _ _⟩
          case round =>
            clear d0 d1 d2 d3 d4 d5 d6 l1 cu lb
            obtain ⟨q, hq, hnq, rfl, rfl, HBQ⟩ := hrel
            obtain ⟨t, ht⟩ : ∃ z, z = (M.take q).any (beachAt s ws f (x.hl + (j : Int)) (k : Int)) := ⟨_, rfl⟩
            rw [← ht]
            have HT := Lib.hid ht
            clear ht
            have cu : wr.cell? ⟨b, o + j, none⟩ = some (.slice A6 M.length k6) := (HBQ.out.cell (p := ⟨b, o + j, none⟩) (World.block_lt_of_cell? _ _ HCU.out)).trans HCU.out
            have lb := World.block_lt_of_cell? _ _ cu
            by_cases hlq : q < M.length
            · have hy : M[q]? = some M[q] := List.getElem?_eq_getElem hlq
              obtain ⟨y, hye⟩ : ∃ y, y = M[q] := ⟨_, rfl⟩
              rw [← hye] at hy
              clear hye
              obtain ⟨b6, o6, rfl, c0, c1⟩ := (HSP.out.sl.below HBQ.out).place q _ hy
              have hyk := HMK.out y (List.mem_of_getElem? hy)
              have HYK := Lib.hid hyk
              have HTS : Hid ((M.take (q + 1)).any (beachAt s ws f (x.hl + (j : Int)) (k : Int)) = (t || beachAt s ws f (x.hl + (j : Int)) (k : Int) y)) := by unfold Hid; rw [any_takeP hy, HT.out]
              have lc := World.block_lt_of_cell? _ _ c0
              have lq : (q : Int) < (M.length : Int) := by omega
              clear hy hyk
              go_wp2_with fail
              cases t with
              | true =>
                go_quiet (fail)
                go_wp2_with fail
                go_roundg (M.length - (q + 1))
                case measure => omega
                case rel => exact ⟨q + 1, by omega, rfl, by go_num, by rw [HTS.out]; simp, bl_drewN HBQ.out _⟩
              | false =>
                by_cases hyb : 0 < y.b
                rotate_left
                · have HBN := Lib.hid (beachAt_no (ws := ws) (f := f) (h := x.hl + (j : Int)) (c := (k : Int)) HYK.out hyb)
                  go_quiet (fail)
                  go_wp2_with fail
                  go_roundg (M.length - (q + 1))
                  case measure => omega
                  case rel => exact ⟨q + 1, by omega, rfl, by go_num, by rw [HTS.out, HBN.out]; simp, bl_drewN HBQ.out _⟩
                · have HBY := Lib.hid (beachAt_yes (s := s) (ws := ws) (f := f) (h := x.hl + (j : Int)) (c := (k : Int)) hyb)
                  obtain ⟨⟨a0, a1, a2, a3⟩, _, l0, _⟩ := (HL3.out.below (bl_step HBB.out HBQ.out)).cells
                  have FC : Hid (∀ V, Below wr.heap.size wr V → Calls Tryz.prog 85 #[.agg #[iv s.cells, iv s.bands, .slice A1 s.hts.length k1, .slice A2 s.tds.length k2], .slice A4 ws.length k4, .int .u8 f, placeV y, iv (x.hl + (j : Int))] V fun e w' => ∃ v', e = .returned v' ∧ SlP w' v' (placesOf (movesM s ws f y (x.hl + (j : Int)))) ∧ Below V.heap.size V w') := fun V hV => movesR_calls s ws f _ _ _ y _ V (HK3.out.below (bl_step (bl_step HBB.out HBQ.out) hV)) HYK.out (by omega)
                  go_region_held3 (fun V => (∀ b o, b < wr.heap.size → V.cell? ⟨b, o, none⟩ = wr.cell? ⟨b, o, none⟩) ∧ Hid (Below wr.heap.size wr V)) (first | exact sees_start wr | exact sees_step (by assumption) hb7 | exact sees_step (by assumption) hb8) (first | (go_at_call 85; refine (FC.out _ (Hid.out (And.right (by assumption)))).mono ?_; rintro e w' ⟨v3, rfl, hsm, hb7⟩) | (go_at_call 46; refine (has46_calls _ ⟨(k : Int), 0⟩ v3 _ hsm.sl).mono ?_; rintro e w' ⟨rfl, hb8⟩))
                  have hbx := (And.right ‹_ ∧ Hid _›).out
                  have HBX := Lib.hid (bl_step HBQ.out hbx)
                  clear hbx
                  go_wp2_with fail
                  go_roundg (M.length - (q + 1))
                  case measure => omega
                  case rel => exact ⟨q + 1, by omega, rfl, by go_num, by rw [HTS.out, HBY.out]; simp, HBX.out⟩
            · obtain rfl : q = M.length := by omega
              rw [List.take_length] at HT
              have HLA : Hid (landsAt s ws f (k : Int) (x.hl + (j : Int), setAt s ws f x j) = t) := by unfold Hid; rw [HT.out, HMD.out]; rfl
              have HRS : Hid (refAt s ws f x (k : Int) (j + 1) = refNext (x.hl + (j : Int)) (ra, rb) t) := by unfold Hid; rw [refAt_succ, HRA.out, HLA.out]
              have HBF := Lib.hid (bl_step HBJ.out HBQ.out)
              cases t with
              | false =>
                go_wp2_with fail
                go_roundg (N - (j + 1))
                case measure => omega
                case rel => exact ⟨j + 1, by omega, rfl, by go_num, by rw [HRS.out]; rfl, by rw [HRS.out]; rfl, HBF.out⟩
              | true =>
                by_cases hra : ra < 0
                · have HR1 : Hid (refNext (x.hl + (j : Int)) (ra, rb) true = (x.hl + (j : Int) + 1, x.hl + (j : Int) + 1)) := by unfold Hid refNext; simp [hra]
                  go_wp2_with fail
                  go_roundg (N - (j + 1))
                  case measure => omega
                  case rel => exact ⟨j + 1, by omega, rfl, by go_num, by rw [HRS.out, HR1.out], by rw [HRS.out, HR1.out], HBF.out⟩
                · have HR1 : Hid (refNext (x.hl + (j : Int)) (ra, rb) true = (ra, x.hl + (j : Int) + 1)) := by unfold Hid refNext; simp [hra]
                  go_wp2_with fail
                  go_roundg (N - (j + 1))
                  case measure => omega
                  case rel => exact ⟨j + 1, by omega, rfl, by go_num, by rw [HRS.out, HR1.out], by rw [HRS.out, HR1.out], HBF.out⟩
        · obtain rfl : j = N := by omega
          have HOB := Lib.hid (HO.out.below HBJ.out)
          have HLk : Hid (LL (k : Int) = if ra < 0 then none else some (ra, rb)) := by unfold Hid; rw [HLD.out, HRA.out]
          have hlen := landTo_len LL k
          have hks : k ≤ 40 := by omega
          by_cases hra : ra < 0
          · have HT : Hid (landTo LL (k + 1) = landTo LL k) := landTo_no (by rw [HLk.out, if_pos hra])
            go_wp2_with fail
            go_roundg (s.cells.toNat - (k + 1))
            case measure => omega
            case rel => exact ⟨k + 1, by show k + 1 ≤ _; omega, rfl, by go_num, by unfold Hid; rw [HT.out]; exact HOB.out, HBB.out⟩
          · have HT : Hid (landTo LL (k + 1) = landTo LL k ++ [⟨(k : Int), ra, rb⟩]) := landTo_yes (by rw [HLk.out, if_neg hra])
            obtain ⟨pre, hpre⟩ : ∃ q, q = landTo LL k := ⟨_, rfl⟩
            rw [← hpre] at HOB HT hlen
            clear hpre
            go_wp2_with (at_builtin; refine wp_push (cs := DLand.cs) (base := w3.heap.size) rfl _ _ _ rfl (.agg #[iv 0, iv 0, iv 0]) 24 Tryz.underlying40 info86 rfl (by decide) u17 pre (⟨(k : Int), ra, rb⟩ : DLand) rfl (HOB.out.alloc _) wr.heap.size 1 1 rfl rfl (0, 0) 86 (blk_new _ _) rfl (land_cells1 _) (by omega) (by decide) (alloc_ge HBB.out.size _) ?_; intro v' W4 hown' hgrow; have HO4 := Lib.hid hown'; have HB4 : Hid (Below w3.heap.size w3 W4) := bl_push (bl_alloc HBB.out _) (HOB.out.alloc _) hgrow (Nat.le_refl _) (alloc_ge HBB.out.size _); clear hown' hgrow)
            go_roundg (s.cells.toNat - (k + 1))
            case measure => omega
            case rel => exact ⟨k + 1, by show k + 1 ≤ _; omega, rfl, by go_num, by unfold Hid; rw [HT.out]; exact HO4.out, HB4.out⟩
    · have hkc : k = s.cells.toNat := by omega
      have HFI : Hid (landL s l known f x h = landTo LL k) := by
        unfold Hid; rw [HR.out]; unfold landOf landTo ints
        rw [show (s.cells - 1 + 1 - 0).toNat = k by omega]
      have hlen := landTo_len LL k
      have hks : k ≤ 40 := by omega
      go_wp2_with fail
      refine bodyPost_ret (v := .tuple #[u17, iv 0]) (by simp [results, Tryz.results27, go_sem]) rfl ⟨u17, by rw [← HER.out],  ?_, bl_step HB3.out HB.out⟩
      rw [HFI.out]; exact HO.out.sl (cs := DLand.cs) (k := 3) (fun _ => rfl) (by omega)
end Go.Proofs.YtjekioabkmijbaaGreatDoor
