/- Sort; Lineage. -/
import Derived.Test.YtjekioabkmijbaaGreatDoorZ00
import Derived.Test.YtjekioabkmijbaaGreatDoorZ20
import Derived.Sort.OwnSortedInts
import Derived.Test.YtjekioabkmijbaaGreatDoorZ09
import Derived.DeepKeys4
import Derived.Maps.OwnIn
import Derived.Test.YtjekioabkmijbaaGreatDoorZ04
set_option linter.unusedVariables false
set_option linter.unusedSimpArgs false
namespace Go.Proofs.YtjekioabkmijbaaGreatDoor
open Go.RowKit
theorem flat_ints : ∀ zs : List Int, zs.flatMap intCs = zs.map (Value.int .i64)
  | [] => rfl
  | z :: zs => by simp [intCs, flat_ints zs]
def sortI (zs : List Int) : List Int := zs.mergeSort fun x y => decide (x ≤ y)
theorem sort_calls (zs : List Int) (v : Value) (base : Nat) (w : World) (h : Own intCs 1 3 base w v zs) (hl : zs.length ≤ 1000000) :
    Calls Tryz.prog 91 #[v] w fun e w' => e = .returned (.tuple #[]) ∧ Own intCs 1 3 base w' v (sortI zs) ∧ w.grownBy w' v.ownBlock := by
  rcases h.2 with ⟨rfl, h0⟩ | ⟨g, cap, cur, rfl, hb, hg, hn, hc, hs, ht⟩
  · obtain rfl := List.length_eq_zero_iff.1 h0
    refine (Tryz.slices_Sort_int_none none 0 w).mono ?_
    rintro e w' ⟨rfl, rfl⟩
    exact ⟨rfl, by simpa [sortI] using h, ⟨rfl, rfl, rfl, Nat.le_refl _, fun _ _ _ => rfl⟩⟩
  · rw [flat_ints, Nat.mul_one] at ht
    refine (Tryz.slices_Sort_int g 0 cap zs w (holds_of_blockI hg ht) (blk_lt hg) (by omega)).mono ?_
    rintro e w' ⟨rfl, n, os, rfl⟩
    have hlen : (sortI zs).length = zs.length := by unfold sortI; exact List.length_mergeSort _
    refine ⟨rfl, ?_, grownBy_sortedI _⟩
    unfold Own
    rw [flat_ints, hlen]
    exact ownsRow_sortedI (ts := sortI zs) hlen hb hg hn hc hs
/-- The winds on which it rests: each that is not wanted is struck, from the last one on. -/
def lineFrom (s : DSea) (f : Int) (x : DLoss) (p : DPlace) (h : Int) : Nat → List DWind → List DWind
  | 0, l => l
  | i + 1, l => lineFrom s f x p h i (if hasM (reachM s (l.eraseIdx i) f x h) p then l else l.eraseIdx i)
def lineW (s : DSea) (ws : List DWind) (f : Int) (x : DLoss) (p : DPlace) (h : Int) : List DWind := lineFrom s f x p h ws.length ws
def lineL (s : DSea) (l : List DWind) (known f : Int) (x : DLoss) (p : DPlace) (h : Int) : List Int := if barIs s l known f x p h then sortI ((lineW s (counting l known) f x p h).map DWind.id) else []
theorem windsOk_erase {ws : List DWind} (h : windsOk ws) (i : Nat) : windsOk (ws.eraseIdx i) :=
  ⟨Nat.le_trans (List.length_eraseIdx_le _ _) h.1, fun x hx => h.2 x (List.mem_of_mem_eraseIdx hx)⟩
def LinePost (ids : List Int) (is : Bool) (er : Int) (w : World) (e : Ending) (w' : World) : Prop :=
  ∃ v, e = .returned (.tuple #[v, .bool is, iv er]) ∧ Own intCs 1 3 w.heap.size w' v ids ∧ Below w.heap.size w w'
set_option maxHeartbeats 2000000 in
set_option maxRecDepth 20000 in
theorem lineage_calls (s : DSea) (l : List DWind) (x : DLoss) (p : DPlace) (known f h : Int) (vh vt vl : Value) (w : World) (hf : 0 ≤ f ∧ f ≤ 255) (h1 : Sl intCs 1 w vh s.hts) (h2 : Sl DTide.cs 2 w vt s.tds) (h3 : Sl DWind.cs 9 w vl l) :
    Calls Tryz.prog 31 #[.agg #[iv s.cells, iv s.bands, vh, vt], vl, iv known, lossV x, .int .u8 f, placeV p, iv h] w fun e w' => LinePost (lineL s l known f x p h) (barIs s l known f x p h) (errAsk s l x f (some p) h) w e w' := by
  obtain ⟨A1, k1, rfl, hk1, hlk1⟩ := h1.open_
  obtain ⟨A2, k2, rfl, hk2, hlk2⟩ := h2.open_
  have H1 := Lib.hid h1
  have H2 := Lib.hid h2
  have H3 := Lib.hid h3
  clear h1 h2 h3
  have hi : barIs s l known f x p h = (decide (errAsk s l x f (some p) h = 0) && !hasM (reachM s (counting l known) f x h) p) := rfl
  have hids : lineL s l known f x p h = if barIs s l known f x p h then sortI ((lineW s (counting l known) f x p h).map DWind.id) else [] := rfl
  generalize lineL s l known f x p h = ids at hids ⊢
  generalize barIs s l known f x p h = is at hi hids ⊢
  obtain ⟨er, her⟩ : ∃ q, q = errAsk s l x f (some p) h := ⟨_, rfl⟩
  rw [← her] at hi ⊢
  have HI := Lib.hid hi
  have HIDS := Lib.hid hids
  clear hi hids
  go_enter Tryz.func31, Tryz.ntmps31
  go_wp2_with fail
  refine calls_abs (fun W0 hW0 => ?_)
  have g0 : W0.heap[w.heap.size]? = some (.cells #[iv s.cells, iv s.bands, .slice A1 s.hts.length k1, .slice A2 s.tds.length k2] 25 (0, 0)) := by rw [hW0]; exact blk_alloc (blk_alloc (blk_new _ _) _) _
  have g1 : W0.heap[w.heap.size + 1]? = some (.cells (lossA x) 30 (0, 0)) := by rw [hW0]; exact blk_alloc (blk_at _ (by simp)) _
  have gp : W0.heap[w.heap.size + 1 + 1]? = some (.cells #[iv p.c, iv p.b] 48 (0, 0)) := by rw [hW0]; exact blk_at _ (by simp)
  have hB : Below w.heap.size w W0 := by rw [hW0]; exact bl_alloc (bl_alloc (bl_alloc (Below.refl _ _) _) _) _
  clear hW0
  by_cases he : er = 0
  · rw [he] at her
    subst he
    have he := her.symm
    have HF := Lib.hid (ask_facts he)
    have hokp : okP p := okP_of HF.out.sea (ask_place he)
    have HOK := Lib.hid hokp
    refine (askedP_ok s l x p known f h _ _ vl _ W0 hf (H1.out.below hB) (H2.out.below hB) (H3.out.below hB) gp he).mono ?_
    rintro e w1 ⟨A3, n3, c3, rfl, hk, hb1⟩
    have HK := Lib.hid hk
    have G1 := Lib.hid (blk_below g1 hb1)
    have GP := Lib.hid (blk_below gp hb1)
    have HB1 := Lib.hid (bl_step hB hb1)
    clear hk hb1 g0 g1 gp hB he hokp her
    go_wp2_with fail
    refine wp_abs (fun W2 hW2 => ?_)
    have hb2 : Below w1.heap.size w1 W2 := by rw [hW2]; exact bl_alloc (Below.refl _ _) _
    have gs2 : W2.heap[w1.heap.size]? = some (.cells #[iv s.cells, iv s.bands, .slice A1 s.hts.length k1, .slice A2 s.tds.length k2, .slice A3 n3 c3, iv f] 110 (0, 0)) := by rw [hW2]; exact blk_new _ _
    clear hW2
    have G1_2 := Lib.hid (blk_below G1.out hb2)
    have GP_2 := Lib.hid (blk_below GP.out hb2)
    have HK2 := Lib.hid (HK.out.below hb2)
    have HB2 := Lib.hid (bl_step HB1.out hb2)
    have GS2 := Lib.hid gs2
    obtain ⟨M, hM⟩ : ∃ M, M = reachM s (counting l known) f x h := ⟨_, rfl⟩
    have HM := Lib.hid hM
    have FC : Hid (∀ V, Below W2.heap.size W2 V → Calls Tryz.prog 77 #[.agg #[iv s.cells, iv s.bands, .slice A1 s.hts.length k1, .slice A2 s.tds.length k2, .slice A3 n3 c3, iv f], lossV x, iv h] V fun e w' => e = .returned (setV M) ∧ Below V.heap.size V w') := fun V hV => by rw [hM]; exact last_calls s _ f _ _ _ x h V (HK2.out.below hV) HF.out.loss HF.out.hour.2 HF.out.near.1
    obtain ⟨d0, d1, d2, d3, d4, d5, d6⟩ := loss_cells G1_2.out
    obtain ⟨p0, p1⟩ := place_cells GP_2.out
    obtain ⟨c0, c1, c2, c3', c4, c5⟩ := sky_cells gs2
    have t1 := blk_lt G1_2.out
    have t2 := blk_lt GP_2.out
    have t3 := blk_lt gs2
    clear hM gs2 hb2
    go_region_held3 (fun V => (∀ b o, b < W2.heap.size → V.cell? ⟨b, o, none⟩ = W2.cell? ⟨b, o, none⟩) ∧ Hid (Below W2.heap.size W2 V)) (first | exact sees_start W2 | exact sees_step (by assumption) hb7 | exact sees_step (by assumption) hb8) (first | (go_at_call 77; refine (FC.out _ (Hid.out (And.right (by assumption)))).mono ?_; rintro e w' ⟨rfl, hb7⟩) | (go_at_call 86; refine (has_calls M p _ HOK.out).mono ?_; rintro e w' ⟨rfl, hb8⟩))
    rename _ ∧ Hid (Below W2.heap.size W2 _) => hAnd
    have hbx := hAnd.2.out
    rename World => w4
    have HBX := Lib.hid hbx
    have HB4 := Lib.hid (bl_step HB2.out hbx)
    have G1_4 := Lib.hid (blk_below G1_2.out hbx)
    have GP_4 := Lib.hid (blk_below GP_2.out hbx)
    have GS_4 := Lib.hid (blk_below GS2.out hbx)
    have HK4 := Lib.hid (HK2.out.below hbx)
    have hhb : is = !hasM M p := by rw [HI.out, HM.out]; simp
    have hh2 : hasM M p = !is := by rw [hhb]; simp
    rw [hh2]
    clear hAnd hbx hb7 hb8 d0 d1 d2 d3 d4 d5 d6 p0 p1 c0 c1 c2 c3' c4 c5 t1 t2 t3 hhb hh2
    cases is with
    | false =>
      go_wp2_with fail
      refine bodyPost_ret (v := .tuple #[.slice none 0 0, .bool false, iv 0]) (by simp [results, Tryz.results31, go_sem]) rfl ⟨_, rfl, ?_, HB4.out⟩
      rw [show ids = [] by rw [HIDS.out]; simp]
      exact Own.nil _ _
    | true =>
      obtain ⟨c0, c1, c2, c3', c4, c5⟩ := sky_cells GS_4.out
      have HCL := Lib.hid (clone_calls (counting l known) (.slice A3 n3 c3) w4 HK4.out.winds.1 HK4.out.ws)
      go_wp2_with fail
      refine HCL.out.mono ?_
      rintro e w5 ⟨v5, rfl, ho5, hb5⟩
      obtain ⟨A5, c5', rfl⟩ := ho5.slice
      obtain ⟨ws, hws⟩ : ∃ ws, ws = counting l known := ⟨_, rfl⟩
      rw [← hws] at ho5 HIDS ⊢
      have HWS := Lib.hid hws
      have hwl : ws.length ≤ 1000000 := by rw [hws]; exact HK4.out.winds.1
      have hwo : windsOk ws := by rw [hws]; exact HK4.out.winds
      have HWO := Lib.hid hwo
      have HO5 := Lib.hid ho5
      have HB5 := Lib.hid hb5
      have e0 : IntKind.i64.wrap ((ws.length : Int) - 1) = (ws.length : Int) - 1 := IntWalk.i64_in _ ⟨by omega, by omega⟩
      clear hws hwo ho5 hb5 c0 c1 c2 c3' c4 c5 HCL
      go_wp2_with fail
      go_loopg [19, 20] ws.length (fun n u i wr => ∃ (L : List DWind), n ≤ L.length ∧ L.length ≤ 1000000 ∧ i = .int .i64 ((n : Int) - 1) ∧ Hid (Own DWind.cs 9 53 w4.heap.size wr u L ∧ windsOk L ∧ lineFrom s f x p h n L = lineW s ws f x p h) ∧ Hid (Below w4.heap.size w4 wr))
      case atStart => exact ⟨ws, Nat.le_refl _, hwl, rfl, ⟨HO5.out, HWO.out, rfl⟩, HB5.out⟩
      case round =>
        obtain ⟨L, hnL, hL, hi0, HLn, HBr⟩ := hrel
        cases gk with
        | succ j =>
          rw [show ((j + 1 : Nat) : Int) - 1 = (j : Int) by omega] at hi0
          subst hi0
          have hjl : j < L.length := by omega
          have kj0 : (0 : Int) ≤ (j : Int) := by omega
          have kj1 : (j : Int) ≤ 1000000 := by omega
          have HCL := Lib.hid (clone_calls L u19 wr hL (HLn.out.1.sl (fun _ => rfl) (by omega)))
          go_wp2_with fail
          refine HCL.out.mono ?_
          rintro e w6 ⟨v6, rfl, ho6, hb6⟩
          have HB6 := Lib.hid hb6
          have HDL := Lib.hid (delete88_calls L v6 wr.heap.size j w6 ho6 hjl hL)
          have HO6 := Lib.hid ho6
          clear ho6 hb6 HCL
          go_wp2_with fail
          refine HDL.out.mono ?_
          rintro e w7 ⟨v7, rfl, ho7, hg7⟩
          have hrow : ∀ b, v6.ownBlock = some b → wr.heap.size ≤ b := fun b hb => (HO6.out.lt b hb).1
          have hb7 : Below wr.heap.size wr w7 := HB6.out.grown hg7 HB6.out.size hrow
          have HB7 := Lib.hid (HBr.out.trans (hb7.mono HBr.out.size))
          have HLO := Lib.hid (HLn.out.1.below hb7)
          have HO7 := Lib.hid (ho7.mono (base' := w4.heap.size) HBr.out.size)
          have hwe := windsOk_erase HLn.out.2.1 j
          have hK7 : Sky s (L.eraseIdx j) f (.slice A1 s.hts.length k1) (.slice A2 s.tds.length k2) v7 w7 :=
            ⟨HK4.out.sea, hwe, HK4.out.f, HK4.out.hts.below HB7.out, HK4.out.tds.below HB7.out, ho7.sl (fun _ => rfl) (by have := hwe.1; omega)⟩
          obtain ⟨A7, c7, rfl⟩ := ho7.slice
          have HK7 := Lib.hid hK7
          obtain ⟨M7, hM7⟩ : ∃ M, M = reachM s (L.eraseIdx j) f x h := ⟨_, rfl⟩
          have HM7 := Lib.hid hM7
          have FC7 : Hid (∀ V, Below w7.heap.size w7 V → Calls Tryz.prog 77 #[.agg #[iv s.cells, iv s.bands, .slice A1 s.hts.length k1, .slice A2 s.tds.length k2, .slice A7 (L.eraseIdx j).length c7, iv f], lossV x, iv h] V fun e w' => e = .returned (setV M7) ∧ Below V.heap.size V w') := fun V hV => by rw [hM7]; exact last_calls s _ f _ _ _ x h V (HK7.out.below hV) HF.out.loss HF.out.hour.2 HF.out.near.1
          obtain ⟨nn, hnn⟩ : ∃ nn, nn = (L.eraseIdx j).length := ⟨_, rfl⟩
          rw [← hnn] at FC7 HO7 ⊢
          have HNN := Lib.hid hnn
          have gs7 := blk_below GS_4.out HB7.out
          have gl7 := blk_below G1_4.out HB7.out
          have gp7 := blk_below GP_4.out HB7.out
          obtain ⟨d0, d1, d2, d3, d4, d5, d6⟩ := loss_cells gl7
          obtain ⟨p0, p1⟩ := place_cells gp7
          obtain ⟨c0, c1, c2, c3', c4, c5⟩ := sky_cells gs7
          have t1 := blk_lt gl7
          have t2 := blk_lt gp7
          have t3 := blk_lt gs7
          clear hM7 hnn gs7 gl7 gp7 hK7 hwe ho7 hg7 hb7 hrow HDL HO6 HB6
          go_wp2_with fail
          go_region_held3 (fun V => (∀ b o, b < w7.heap.size → V.cell? ⟨b, o, none⟩ = w7.cell? ⟨b, o, none⟩) ∧ Hid (Below w7.heap.size w7 V)) (first | exact sees_start w7 | exact sees_step (by assumption) hb8 | exact sees_step (by assumption) hb9) (first | (go_at_call 77; refine (FC7.out _ (Hid.out (And.right (by assumption)))).mono ?_; rintro e w' ⟨rfl, hb8⟩) | (go_at_call 86; refine (has_calls M7 p _ HOK.out).mono ?_; rintro e w' ⟨rfl, hb9⟩))
          rename _ ∧ Hid (Below w7.heap.size w7 _) => hAnd
          have hbx := hAnd.2.out
          rename World => w8
          have HB8 := Lib.hid (HB7.out.trans (hbx.mono HB7.out.size))
          have HLO8 := Lib.hid (HLO.out.below hbx)
          have HO8 := Lib.hid (HO7.out.below hbx)
          clear hAnd hbx hb8 hb9 d0 d1 d2 d3 d4 d5 d6 p0 p1 c0 c1 c2 c3' c4 c5 t1 t2 t3
          obtain ⟨hv, hhv⟩ : ∃ q, q = hasM M7 p := ⟨_, rfl⟩
          rw [← hhv]
          have HHV := Lib.hid hhv
          clear hhv
          have hstep : lineFrom s f x p h (j + 1) L = lineFrom s f x p h j (if hv = true then L else L.eraseIdx j) := by rw [HHV.out, HM7.out]; rfl
          have HSTEP := Lib.hid hstep
          clear hstep
          cases hv with
          | true =>
            go_wp2_with fail
            go_roundg j
            case measure => omega
            case rel => exact ⟨L, by omega, hL, by go_num, ⟨HLO8.out, HLn.out.2.1, by rw [← HLn.out.2.2, HSTEP.out]; simp⟩, HB8.out⟩
          | false =>
            have hel : (L.eraseIdx j).length = L.length - 1 := by rw [List.length_eraseIdx, if_pos hjl]
            have HEL := Lib.hid hel
            clear hel
            go_wp2_with fail
            go_roundg j
            case measure => omega
            case rel => exact ⟨L.eraseIdx j, by rw [HEL.out]; omega, by rw [HEL.out]; omega, by go_num, ⟨HO8.out, windsOk_erase HLn.out.2.1 j, by rw [← HLn.out.2.2, HSTEP.out]; simp⟩, HB8.out⟩
        | zero =>
          rw [show ((0 : Nat) : Int) - 1 = -1 by omega] at hi0
          subst hi0
          have HLE : Hid (L = lineW s ws f x p h) := HLn.out.2.2
          have HMP := Lib.hid (mapped89_calls L u19 wr (HLn.out.1.sl (fun _ => rfl) (by omega)) hL)
          have HBw := Lib.hid (bl_step HB4.out HBr.out)
          go_wp2_with fail
          refine HMP.out.mono ?_
          rintro e w8 ⟨v8, rfl, ho8, hb8⟩
          have HSO := Lib.hid (sort_calls (L.map DWind.id) v8 wr.heap.size w8 ho8 (by simpa using hL))
          have hrow : ∀ b, v8.ownBlock = some b → wr.heap.size ≤ b := fun b hb => (ho8.lt b hb).1
          have HRW := Lib.hid hrow
          have HB8 := Lib.hid hb8
          clear ho8 hb8 hrow HMP
          go_wp2_with fail
          refine HSO.out.mono ?_
          rintro e w9 ⟨rfl, ho9, hg9⟩
          have HO9 := Lib.hid ho9
          have HB9 := Lib.hid (bl_step HBw.out (HB8.out.grown hg9 HB8.out.size HRW.out))
          clear ho9 hg9 HSO
          go_wp2_with fail
          refine bodyPost_ret (v := .tuple #[v8, .bool true, iv 0]) (by simp [results, Tryz.results31, go_sem]) rfl ⟨_, rfl, ?_, HB9.out⟩
          have hids2 : ids = sortI (L.map DWind.id) := by rw [HIDS.out, HLE.out]; simp
          rw [hids2]
          exact HO9.out.mono HBw.out.size
  · have HC := askedP_bad s l x p known f h _ _ vl _ W0 hf (H1.out.below hB) (H2.out.below hB) (H3.out.below hB) gp
    rw [← her] at HC
    have his : is = false := by rw [HI.out]; simp [he]
    subst his
    have h0' : (er != 0) = true := by simp [bne, he]
    refine HC.mono ?_
    rintro e w1 ⟨q0, q1, B2, n2, c2, B3, n3, c3, B4, n4, c4, q5, rfl, hb1⟩
    have HB1 := Lib.hid (bl_step hB hb1)
    clear he her HC hb1 g0 g1 gp hB
    go_wp2_with fail
    go_quiet (fail)
    go_wp2_with fail
    refine bodyPost_ret (v := .tuple #[.slice none 0 0, .bool false, iv er]) (by simp [results, Tryz.results31, go_sem]) rfl ⟨_, rfl, ?_, bl_drewN (bl_alloc HB1.out _) _⟩
    rw [show ids = [] by rw [HIDS.out]; simp]
    exact Own.nil _ _
end Go.Proofs.YtjekioabkmijbaaGreatDoor
/- The map of the landings. -/
set_option linter.unusedVariables false
set_option linter.unusedSimpArgs false
namespace Go.Proofs.YtjekioabkmijbaaGreatDoor
open Go.RowKit Go.Maps
theorem laidOutT : laidOutB Tryz.prog = true := by kernel_rfl
theorem row48b : decide (48 < Tryz.prog.types.size) = true := by kernel_rfl
theorem row48 : (48 : TypeId) < Tryz.prog.types.size := of_decide_eq_true row48b
theorem keyT48 : Tryz.prog.keyTypeAt 2 48 = true := by kernel_rfl
theorem keyed48 : Keyed Tryz.prog 48 := Keyed.of_law (deep_law_laid laidOutT (m := 2) (by omega) row48 keyT48 (by rw [Tryz.underlying48]))
theorem keyLits48 (n : Nat) (c : Int) (h0 : -1000000 ≤ c) (h : c ≤ 1000000) : Tryz.prog.keyLits (n + 2) 48 [iv c, iv 0] = some [.int .i64 c, .int .i64 0] := by
  have hc : Tryz.prog.cellsOf 48 = 2 := by kernel_rfl
  have hc3 : Tryz.prog.cellsOf 3 = 1 := by kernel_rfl
  simp [Program.keyLits, Tryz.underlying48, Tryz.underlying3, hc, hc3, wf64 h0 h, wf64 (a := 0) (by decide) (by decide)]
theorem key48 (c : Int) (h0 : -1000000 ≤ c) (h : c ≤ 1000000) : ∃ l, keyOf Tryz.prog 48 (.agg #[iv c, iv 0]) = some l := by
  have hc : Tryz.prog.cellsOf 48 = 2 := by kernel_rfl
  have hk : Tryz.prog.keyType 48 = true := by kernel_rfl
  obtain ⟨n, hn⟩ : ∃ n, Tryz.prog.types.size + 1 = n + 2 := ⟨Tryz.prog.types.size - 1, by have h := of_decide_eq_true row48b; generalize Tryz.prog.types.size = z at h ⊢; omega⟩
  unfold keyOf
  rw [Tryz.underlying48, hn]
  have hkl := keyLits48 n c h0 h
  simp only [hk, Value.formed, Tryz.underlying48, hc, Value.cells]
  exact ⟨_, by simp [hkl]; rfl⟩
theorem kl48_ex : ∃ f : Int → Lit, ∀ c : Int, -1000000 ≤ c → c ≤ 1000000 → keyOf Tryz.prog 48 (.agg #[iv c, iv 0]) = some (f c) := by
  refine ⟨fun c => (keyOf Tryz.prog 48 (.agg #[iv c, iv 0])).getD .nil, fun c h0 h => ?_⟩
  obtain ⟨l, hl⟩ := key48 c h0 h
  simp only [hl]; rfl
noncomputable def kl48 : Int → Lit := Classical.choose kl48_ex
theorem kl48_eq (c : Int) (h0 : -1000000 ≤ c) (h : c ≤ 1000000) : keyOf Tryz.prog 48 (.agg #[iv c, iv 0]) = some (kl48 c) := Classical.choose_spec kl48_ex c h0 h
theorem kl48_is (c : Int) (h0 : -1000000 ≤ c) (h : c ≤ 1000000) : WideAt.IsKeyLit (kl48 c) := keyed48.key (kl48_eq c h0 h)
theorem kl48_inj (c d : Int) (h0 : -1000000 ≤ c) (h : c ≤ 1000000) (k0 : -1000000 ≤ d) (k : d ≤ 1000000) (e : kl48 c = kl48 d) : c = d := by
  have h1 := kl48_eq c h0 h
  have h2 := kl48_eq d k0 k
  rw [← e] at h2
  have := keyed48.inj h1 h2
  simpa using this
/-- The element reads as itself. -/
def landR (v : Value) : Option (DataW Value × List MemPlace) := some (.held v, [])
def noLand : Value := .agg #[iv 0, iv 0, iv 0]
theorem zero86 (w : World) : (zeroValue 86).run Tryz.prog w = .ok noLand w := by kernel_rfl
def landVal (L : Int → Option (Int × Int)) (c : Int) : Value := (L c).elim noLand (fun q => .agg #[iv c, iv q.1, iv q.2])
/-- The map of the landings, in block b. -/
def LandMap (L : Int → Option (Int × Int)) (b n : Nat) (w : World) : Prop := ∃ D, w.ownsMap Tryz.prog 48 landR b n D ∧ IsMap D ∧ ∀ c, -1000000 ≤ c → c ≤ 1000000 → Maps.has D (kl48 c) = (L c).isSome ∧ D.atKey (kl48 c) (.held noLand) = .held (landVal L c)
theorem LandMap.made (w : World) : LandMap (fun _ => none) w.heap.size 0 (w.alloc (.map #[] 0)) := ⟨_, World.ownsMap_made _ _ _ _, isMap_empty, fun c _ _ => ⟨rfl, rfl⟩⟩
theorem LandMap.kept {L : Int → Option (Int × Int)} {b n : Nat} {w w' : World} {row : Option Nat} (h : LandMap L b n w) (hg : w.grownBy w' row) (hne : some b ≠ row) : LandMap L b n w' := by
  obtain ⟨D, h1, h2, h3⟩ := h
  exact ⟨D, h1.kept hg hne, h2, h3⟩
theorem LandMap.lt {L : Int → Option (Int × Int)} {b n : Nat} {w : World} (h : LandMap L b n w) : b < w.heap.size := by
  obtain ⟨D, h1, _, _⟩ := h
  exact h1.lt
theorem LandMap.below {L : Int → Option (Int × Int)} {b n : Nat} {w w' : World} (h : LandMap L b n w) (hb : Below w.heap.size w w') : LandMap L b n w' :=
  h.kept (row := none) ⟨hb.os, hb.tape, hb.output, hb.size, fun i hi _ => hb.block i hi⟩ (by simp)
theorem LandMap.mono {L : Int → Option (Int × Int)} {b n m : Nat} {w : World} (h : LandMap L b n w) (hn : n ≤ m) : LandMap L b m w := by
  obtain ⟨D, h1, h2, h3⟩ := h
  exact ⟨D, h1.mono hn, h2, h3⟩
theorem LandMap.fix {L : Int → Option (Int × Int)} {K : Nat → Prop} {b n : Nat} {w w' : World} (h : LandMap L b n w) (hb : Fix K w w') (hk : K b) : LandMap L b n w' := by
  obtain ⟨D, ⟨es, clock, e1, e2⟩, h2, h3⟩ := h
  exact ⟨D, ⟨es, clock, hb.blk e1 hk, e2⟩, h2, h3⟩
theorem LandMap.look {L : Int → Option (Int × Int)} {b n : Nat} {w : World} (h : LandMap L b n w) (c : Int) (h0 : -1000000 ≤ c) (h1 : c ≤ 1000000) : (Instr.lookup 122 (.map (some b)) (.agg #[iv c, iv 0]) true).run Tryz.prog w = .ok (.tuple #[landVal L c, .bool (L c).isSome]) w := by
  obtain ⟨D, hm, _, hD⟩ := h
  obtain ⟨v, ps, hrun, hv⟩ := hm.look_ok (t := 122) (e := 86) keyed48 Tryz.underlying122 (z := noLand) (zero86 w) (zd := .held noLand) (zp := []) rfl (kl48_eq c h0 h1)
  rw [(hD c h0 h1).2] at hv
  simp only [landR, Option.some.injEq, Prod.mk.injEq, DataW.held.injEq] at hv
  rw [hrun, hv.1, (hD c h0 h1).1]
def landPut (L : Int → Option (Int × Int)) (c : Int) (q : Int × Int) : Int → Option (Int × Int) := fun d => if d = c then some q else L d
theorem LandMap.upd {L : Int → Option (Int × Int)} {b n : Nat} {w : World} (h : LandMap L b n w) (hn : n < maxLen) (c p q : Int) (h0 : -1000000 ≤ c) (h1 : c ≤ 1000000) :
    ∃ w', (Instr.mapUpdate 122 (.map (some b)) (.agg #[iv c, iv 0]) (.agg #[iv c, iv p, iv q])).run Tryz.prog w = .ok () w' ∧ LandMap (landPut L c (p, q)) b (n + 1) w' ∧ w.grownBy w' (some b) := by
  obtain ⟨D, hm, hM, hD⟩ := h
  obtain ⟨w', hrun, r1, r2⟩ := hm.update (t := 122) (e := 86) keyed48 Tryz.underlying122 hn (kl48_eq c h0 h1) (val := .agg #[iv c, iv p, iv q]) (d := .held (.agg #[iv c, iv p, iv q])) (ps := []) rfl
  refine ⟨w', hrun, ⟨_, r1, hM.put _ _, fun d k0 k1 => ?_⟩, r2⟩
  by_cases e : d = c
  · subst e
    rw [has_put_same hM (kl48_is d h0 h1), atKey_put_same hM (kl48_is d h0 h1)]
    simp [landPut, landVal]
  · have hne : kl48 d ≠ kl48 c := fun h => e (kl48_inj _ _ k0 k1 h0 h1 h)
    rw [has_put_other hne, atKey_put_other hne]
    have := hD d k0 k1
    simpa [landPut, landVal, e] using this
theorem LandMap.alloc {L : Int → Option (Int × Int)} {b n : Nat} {w : World} (h : LandMap L b n w) (o : Obj) : LandMap L b n (w.alloc o) := h.below (bl_alloc (Below.refl _ _) o)
theorem LandMap.setCell {L : Int → Option (Int × Int)} {b n : Nat} {w : World} (h : LandMap L b n w) {p : Addr} (hp : p.block ≠ b) (u : Value) : LandMap L b n (w.setCell p u) := h.fix (K := fun c => c = b) ((Fix.refl _ _).setCell (fun _ h => hp h) u) rfl
/-- The store into the map, at the operation in a round. -/
theorem wpListIn_land {F : Fence} {nF : Nat} (w : World) {ops : Array Oper} {rest : List Oper} {o : Oper} {a : Act} {Q : Exit → Act → World → Prop}
    (hg : o.guard = none) (m x v : Operand) (hop : o.op = Op.mapUpdate 122 m x v) (L : Int → Option (Int × Int)) (b n : Nat)
    (hm : a.eval m = .map (some b)) (hown : LandMap L b n w) (hn : n < maxLen) (c p q : Int) (hx : a.eval x = .agg #[iv c, iv 0]) (hv : a.eval v = .agg #[iv c, iv p, iv q]) (h0 : -1000000 ≤ c) (h1 : c ≤ 1000000)
    (hK : ∀ w', LandMap (landPut L c (p, q)) b (n + 1) w' → w.grownBy w' (some b) → wpListIn F nF Tryz.prog ops Q rest (a.put o.dst undef) w') :
    wpListIn F nF Tryz.prog ops Q (o :: rest) a w := by
  refine wpListIn_plain hg fun K' hK' => ?_
  obtain ⟨w', hrun, r1, r2⟩ := hown.upd hn c p q h0 h1
  unfold Oper.wpIn
  refine ⟨by simp [Oper.about, hop], ?_⟩
  rw [Oper.semAt_plain F _ _ (by rw [hop]; intro c hc'; cases hc')]
  simp [execOp, hop, hm, hx, hv, hrun, Result.andThen]
  exact hK' _ _ (hK w' r1 r2)
end Go.Proofs.YtjekioabkmijbaaGreatDoor
