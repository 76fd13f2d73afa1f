/- The reference's sets. -/
import Derived.Test.YtjekioabkmijbaaGreatDoorZ43
import Derived.Test.YtjekioabkmijbaaGreatDoorZ17
import Derived.Deep.RegionHeld3
import Derived.Test.YtjekioabkmijbaaGreatDoorZ34
import Derived.Test.YtjekioabkmijbaaGreatDoorZ08
set_option linter.unusedVariables false
set_option linter.unusedSimpArgs false
namespace Go.Proofs.YtjekioabkmijbaaGreatDoor
open Go.RowKit
/-- A row of lists that are read. -/
def OwnSl (base : Nat) (w : World) (v : Value) (xss : List (List DPlace)) : Prop :=
  ∃ vs : List Value, Own valCs 1 34 base w v vs ∧ vs.length = xss.length ∧ ∀ (i : Nat) (u : Value) (xs : List DPlace), vs[i]? = some u → xss[i]? = some xs → SlP w u xs
section
variable {base : Nat} {w w' : World} {v : Value} {xss : List (List DPlace)}
theorem OwnSl.below (h : OwnSl base w v xss) (hb : Below w.heap.size w w') : OwnSl base w' v xss := by
  obtain ⟨vs, ho, hl, hr⟩ := h
  exact ⟨vs, ho.below hb, hl, fun i u xs h1 h2 => (hr i u xs h1 h2).below hb⟩
theorem OwnSl.get {A : Option Addr} {n c : Nat} (h : OwnSl base w (.slice A n c) xss) (hl : xss.length ≤ 1000000) (i : Nat) (xs : List DPlace) (hi : xss[i]? = some xs) : ∃ b o u, A = some ⟨b, o, none⟩ ∧ w.cell? ⟨b, o + i, none⟩ = some u ∧ SlP w u xs := by
  obtain ⟨vs, ho, hv, hr⟩ := h
  have hlt : i < vs.length := by have := (List.getElem?_eq_some_iff.1 hi).1; omega
  have hvi : vs[i]? = some vs[i] := List.getElem?_eq_getElem hlt
  have hs : Sl valCs 1 w (.slice A n c) vs := ho.sl (fun _ => rfl) (by omega)
  obtain ⟨b, o, e, hc⟩ := hs.get i _ hvi
  exact ⟨b, o, _, e, by have := hc 0 _ rfl; rwa [Nat.add_zero, Nat.mul_one] at this, hr i _ xs hvi hi⟩
theorem OwnSl.slice (h : OwnSl base w v xss) : ∃ A c, v = .slice A xss.length c := by
  obtain ⟨vs, ho, hl, hr⟩ := h
  obtain ⟨A, c, e⟩ := ho.slice
  exact ⟨A, c, by rw [e, hl]⟩
theorem SlP.kept {u : Value} {xs : List DPlace} {vs : List Value} (h : SlP w u xs) (ho : Own valCs 1 34 base w v vs) (hg : w.grownBy w' v.ownBlock) : SlP w' u xs := by
  have key : ∀ b, u.ownBlock = some b → some b ≠ v.ownBlock := fun b hb e => by
    obtain ⟨cur, f, h1⟩ := h.ty b hb
    obtain ⟨c1, h2⟩ := ho.isCells e.symm
    rw [h1] at h2
    simp at h2
  obtain ⟨A, c, he, h1, h2, h3⟩ := h.sl
  subst he
  have hblk : ∀ b o, A = some ⟨b, o, none⟩ → some b ≠ v.ownBlock := fun b o e => key b (by subst e; rfl)
  refine ⟨⟨A, c, rfl, h1, h2, fun i x hx => ?_⟩, fun b hb => ?_⟩
  · obtain ⟨b, o, e, hc⟩ := h3 i x hx
    refine ⟨b, o, e, fun j z hz => ?_⟩
    have hcell := hc j z hz
    have hlt := World.block_lt_of_cell? _ _ hcell
    rw [← hcell]
    unfold World.cell?
    rw [hg.block b hlt (hblk b o e)]
  · obtain ⟨cur, f, h4⟩ := h.ty b hb
    exact ⟨cur, f, blk_grown h4 hg (key b hb)⟩
theorem OwnSl.pushed {vs : List Value} {u v' : Value} {ys : List DPlace} (ho : Own valCs 1 34 base w v vs) (hl : vs.length = xss.length) (hr : ∀ (i : Nat) (u : Value) (xs : List DPlace), vs[i]? = some u → xss[i]? = some xs → SlP w u xs)
    (hu : SlP w u ys) (ho' : Own valCs 1 34 base w' v' (vs ++ [u])) (hg : w.grownBy w' v.ownBlock) : OwnSl base w' v' (xss ++ [ys]) := by
  refine ⟨vs ++ [u], ho', by simp [hl], fun i z xs h1 h2 => ?_⟩
  by_cases hi : i < vs.length
  · rw [List.getElem?_append_left hi] at h1
    rw [List.getElem?_append_left (by omega)] at h2
    exact (hr i z xs h1 h2).kept ho hg
  · rw [List.getElem?_append_right (by omega)] at h1
    rw [List.getElem?_append_right (by omega), hl.symm] at h2
    cases hq : i - vs.length with
    | zero =>
      rw [hq] at h1 h2
      simp at h1 h2
      subst h1 h2
      exact hu.kept ho hg
    | succ n => rw [hq] at h1; simp at h1
theorem OwnSl.one {g : Nat} {u : Value} {ys : List DPlace} (h : w.heap[g]? = some (.cells #[u] 34 (0, 0))) (hb : base ≤ g) (hu : SlP w u ys) : OwnSl base w (.slice (some ⟨g, 0, none⟩) 1 1) [ys] := by
  refine ⟨[u], ⟨rfl, .inr ⟨g, 1, _, rfl, hb, h, Nat.le_refl _, by unfold maxLen; omega, rfl, rfl⟩⟩, rfl, fun i z xs h1 h2 => ?_⟩
  match i, h1, h2 with
  | 0, h1, h2 => simp at h1 h2; subst h1 h2; exact hu
  | i + 1, h1, _ => simp at h1
end
theorem OwnSl.slice' {base : Nat} {w : World} {v : Value} {xss : List (List DPlace)} {n : Nat} (h : OwnSl base w v xss) (hn : xss.length = n) : ∃ A c, v = .slice A n c := by
  obtain ⟨A, c, e⟩ := h.slice
  exact ⟨A, c, by rw [e, hn]⟩
/-- Where a package can be, hour by hour, as the reference lists it. -/
def refSets (s : DSea) (ws : List DWind) (f : Int) (x : DLoss) (k : Nat) : List (List DPlace) := (List.range k).map fun j => placesOf (setAt s ws f x j)
theorem refSets_succ (s : DSea) (ws : List DWind) (f : Int) (x : DLoss) (k : Nat) : refSets s ws f x (k + 1) = refSets s ws f x k ++ [placesOf (setAt s ws f x k)] := by simp [refSets, List.range_succ]
theorem refSets_len (s : DSea) (ws : List DWind) (f : Int) (x : DLoss) (k : Nat) : (refSets s ws f x k).length = k := by simp [refSets]
theorem refSets_get (s : DSea) (ws : List DWind) (f : Int) (x : DLoss) {k j : Nat} (h : j < k) : (refSets s ws f x k)[j]? = some (placesOf (setAt s ws f x j)) := by
  unfold refSets; rw [List.getElem?_map, List.getElem?_range h]; rfl
def stepM (s : DSea) (ws : List DWind) (f t : Int) (b : Nat) (l : List DPlace) : Nat := l.foldl (fun m p => m ||| movesM s ws f p t) b
theorem stepM_take {s : DSea} {ws : List DWind} {f t : Int} {b : Nat} {l : List DPlace} {k : Nat} {p : DPlace} (hp : l[k]? = some p) : stepM s ws f t b (l.take (k + 1)) = stepM s ws f t b (l.take k) ||| movesM s ws f p t := by
  rw [List.take_add_one, hp]; simp [stepM]
theorem stepM_all (s : DSea) (ws : List DWind) (f : Int) (x : DLoss) (k : Nat) : stepM s ws f (x.hl + (k : Int)) (begunM x (x.hl + (k : Int) + 1)) (placesOf (setAt s ws f x k)) = setAt s ws f x (k + 1) := by
  unfold stepM; rw [or_from, setAt]; rfl
set_option maxHeartbeats 8000000 in
set_option maxRecDepth 20000 in
theorem setsR_calls (s : DSea) (ws : List DWind) (f : Int) (vh vt vw : Value) (x : DLoss) (h : Int) (w : World) (hk : Sky s ws f vh vt vw w) (hx : lossOk s x = true) (hn : x.hl ≤ h ∧ h ≤ x.hl + 200) (hh : h ≤ 1000000) :
    Calls Tryz.prog 80 #[.agg #[iv s.cells, iv s.bands, vh, vt], vw, lossV x, .int .u8 f, iv h] w fun e w' => ∃ v', e = .returned v' ∧ OwnSl w.heap.size w' v' (refSets s ws f x ((h - x.hl).toNat + 1)) ∧ Below w.heap.size w w' := by
  obtain ⟨A1, k1s, rfl, hc1, _⟩ := hk.hts.open_
  obtain ⟨A2, k2s, rfl, hc2, _⟩ := hk.tds.open_
  obtain ⟨A3, k3s, rfl, hc3, _⟩ := hk.ws.open_
  have HLB := Lib.hid (lossOk_bounds hk.sea hx)
  have hlb := HLB.out.2
  obtain ⟨hn1, hn2⟩ := hn
  obtain ⟨N, hN⟩ : ∃ N, N = (h - x.hl).toNat := ⟨_, rfl⟩
  rw [← hN]
  have hN1 : x.hl + (N : Int) = h := by omega
  have hN2 : N ≤ 200 := by omega
  have HK := Lib.hid hk
  have HX := Lib.hid hx
  clear hk hx hN
  go_enter Tryz.func80, Tryz.ntmps80
  go_wp2_with fail
  refine calls_abs (fun W hW => ?_)
  have g0 : Hid (W.heap[w.heap.size]? = some (.cells #[iv s.cells, iv s.bands, .slice A1 s.hts.length k1s, .slice A2 s.tds.length k2s] 25 (0, 0))) := by unfold Hid; rw [hW]; exact blk_alloc (blk_new _ _) _
  have g1 : Hid (W.heap[w.heap.size + 1]? = some (.cells (lossA x) 30 (0, 0))) := by unfold Hid; rw [hW]; exact blk_at _ (by simp)
  have hB : Hid (Below w.heap.size w W) := by unfold Hid; rw [hW]; exact bl_alloc (bl_alloc (Below.refl _ _) _) _
  clear hW
  refine (begunR_calls x x.hl W HLB.out.1).mono ?_
  rintro e w1 ⟨v1, rfl, hs1, hb1⟩
  obtain ⟨A8, c8, rfl, _, _⟩ := hs1.sl.open_
  have HS1 := Lib.hid hs1
  have HB1 := Lib.hid (bl_step hB.out hb1)
  have G0 := Lib.hid (blk_below g0.out hb1)
  have G1 := Lib.hid (blk_below g1.out hb1)
  clear hs1 hb1 g0 g1 hB
  obtain ⟨d0, d1, d2, d3, d4, d5, d6⟩ := loss_cells G1.out
  have l0 := blk_lt G1.out
  have hl00 : w.heap.size + 1 < w1.heap.size + 1 := by omega
  go_wp2_with fail
  refine wp_abs (fun W2 hW2 => ?_)
  have HO0 : Hid (OwnSl w1.heap.size W2 (.slice (some ⟨w1.heap.size, 0, none⟩) 1 1) (refSets s ws f x 1)) := by
    unfold Hid; rw [hW2]; exact OwnSl.one (blk_new _ _) (Nat.le_refl _) (HS1.out.below (bl_alloc (Below.refl _ _) _))
  have HBW : Hid (Below w1.heap.size w1 W2) := by unfold Hid; rw [hW2]; exact bl_alloc (Below.refl _ _) _
  clear hW2 d0 d1 d2 d3 d4 d5 d6 l0 HS1 hl00
  obtain ⟨d0, d1, d2, d3, d4, d5, d6⟩ := loss_cells (blk_below G1.out HBW.out)
  have l0 := blk_lt (blk_below G1.out HBW.out)
  go_wp2_with fail
  go_loopg [11, 12] N (fun n u t wr => ∃ k : Nat, k ≤ N ∧ n = N - k ∧ t = .int .i64 (x.hl + k) ∧ Hid (OwnSl w1.heap.size wr u (refSets s ws f x (k + 1))) ∧ Hid (Below w1.heap.size w1 wr))
  case atStart => exact ⟨0, by omega, by omega, by simp, HO0.out, HBW.out⟩
  case round =>
    clear d0 d1 d2 d3 d4 d5 d6 l0 HO0 HBW
    obtain ⟨k, hk, hnn, rfl, HO, HB⟩ := hrel
    by_cases hlt : k < N
    · have hto : x.hl + (k : Int) < h := by omega
      obtain ⟨d0, d1, d2, d3, d4, d5, d6⟩ := loss_cells (blk_below G1.out HB.out)
      have l0 := blk_lt (blk_below G1.out HB.out)
      obtain ⟨A, c, rfl⟩ := HO.out.slice' (refSets_len s ws f x (k + 1))
      obtain ⟨b, o, uu, rfl, cu, hsp⟩ := HO.out.get (by rw [refSets_len]; omega) k _ (refSets_get s ws f x (show k < k + 1 by omega))
      obtain ⟨M, hM⟩ : ∃ q, q = placesOf (setAt s ws f x k) := ⟨_, rfl⟩
      rw [← hM] at hsp
      have hML : M.length ≤ 320 := by rw [hM]; exact places_len _
      have HMD := Lib.hid hM
      have hMok : ∀ p ∈ M, placeOk s p = true := by rw [hM]; exact setAt_ok ws f HK.out.sea HX.out k
      have HMK := Lib.hid hMok
      obtain ⟨A', c', rfl, _, _⟩ := hsp.sl.open_
      have HSP := Lib.hid hsp
      have HC := Lib.hid (begunR_calls x (x.hl + (k : Int) + 1) wr HLB.out.1)
      have lb := World.block_lt_of_cell? _ _ cu
      clear hsp hM hMok
      go_wp2_with fail
      refine HC.out.mono ?_
      rintro e w2 ⟨v2, rfl, hs2, hb2⟩
      have HS2 := Lib.hid hs2
      have HB2 := Lib.hid (bl_step HB.out hb2)
      have cu2 := (hb2.cell (p := ⟨b, o + k, none⟩) lb).trans cu
      have HSP2 := Lib.hid (HSP.out.below hb2)
      have HO2 := Lib.hid (HO.out.below hb2)
      have i1 : IntKind.i64.wrap (k : Int) = (k : Int) := IntWalk.i64_in _ ⟨by omega, by omega⟩
      have i2 : IntKind.i64.wrap ((k : Int) + 1 - 1) = (k : Int) := by rw [show (k : Int) + 1 - 1 = (k : Int) by omega]; exact i1
      have i3 : (0 : Int) ≤ (k : Int) := by omega
      have i4 : (k : Int) < (k : Int) + 1 := by omega
      clear hs2 hb2 HSP HO HC d0 d1 d2 d3 d4 d5 d6 l0 lb cu
      go_wp2_with fail
      go_loopg [13, 15] M.length (fun n u i wr => ∃ j : Nat, j ≤ M.length ∧ n = M.length - j ∧ i = .int .i64 j ∧ Hid (SlP wr u (placesOf (stepM s ws f (x.hl + (k : Int)) (begunM x (x.hl + (k : Int) + 1)) (M.take j)))) ∧ Hid (Below w2.heap.size w2 wr))
      case atStart => exact ⟨0, by omega, by omega, rfl, HS2.out, Below.refl _ _⟩
      case round =>
        clear cu2 i1 i2 i3 i4
        obtain ⟨j, hj, hnj, rfl, HA, HBI⟩ := hrel
        by_cases hlj : j < M.length
        · have hx : M[j]? = some M[j] := List.getElem?_eq_getElem hlj
          obtain ⟨p, hpe⟩ : ∃ p, p = M[j] := ⟨_, rfl⟩
          rw [← hpe] at hx
          clear hpe
          obtain ⟨b1, o1, rfl, c0, c1⟩ := (HSP2.out.sl.below HBI.out).place j _ hx
          have hpk := HMK.out p (List.mem_of_getElem? hx)
          have HT := Lib.hid (stepM_take (s := s) (ws := ws) (f := f) (t := x.hl + (k : Int)) (b := begunM x (x.hl + (k : Int) + 1)) hx)
          obtain ⟨m, hm⟩ : ∃ q, q = stepM s ws f (x.hl + (k : Int)) (begunM x (x.hl + (k : Int) + 1)) (M.take j) := ⟨_, rfl⟩
          rw [← hm] at HA HT
          have HOL : Hid (okL (placesOf (movesM s ws f p (x.hl + (k : Int))))) := okL_of HK.out.sea (movesM_ok ws f _ HK.out.sea hpk)
          have HBL := Lib.hid (bl_step HB2.out HBI.out)
          obtain ⟨⟨a0, a1, a2, a3⟩, _, l0, _⟩ := (LossBox.below (s := s) (x := x) (b1 := w.heap.size + 1) ⟨G0.out, G1.out⟩ HBL.out).cells
          have lb := World.block_lt_of_cell? _ _ c0
          have hpl := places_len (movesM s ws f p (x.hl + (k : Int)))
          have HPL : Hid ((placesOf (movesM s ws f p (x.hl + (k : Int)))).length ≤ 1000) := by unfold Hid; omega
          have FC : Hid (∀ V, Below wr.heap.size wr V → Calls Tryz.prog 85 #[.agg #[iv s.cells, iv s.bands, .slice A1 s.hts.length k1s, .slice A2 s.tds.length k2s], .slice A3 ws.length k3s, .int .u8 f, placeV p, iv (x.hl + (k : Int))] V fun e w' => ∃ v', e = .returned v' ∧ SlP w' v' (placesOf (movesM s ws f p (x.hl + (k : Int)))) ∧ Below V.heap.size V w') := fun V hV => movesR_calls s ws f _ _ _ p _ V (HK.out.below (bl_step (bl_step HB1.out HBL.out) hV)) hpk (by omega)
          have l1 : (j : Int) < (M.length : Int) := by omega
          clear hx hpk hm hpl
          go_wp2_with fail
          go_region_held3 (fun V => (∀ b o, b < wr.heap.size → V.cell? ⟨b, o, none⟩ = wr.cell? ⟨b, o, none⟩) ∧ Hid (Below wr.heap.size wr V)) (first | exact sees_start wr | exact sees_step (by assumption) hb7 | exact sees_step (by assumption) hb8) (first | (go_at_call 85; refine (FC.out _ (Hid.out (And.right (by assumption)))).mono ?_; rintro e w' ⟨v3, rfl, hsm, hb7⟩) | (go_at_call 128; refine (all_calls m _ _ v3 _ HOL.out HPL.out (HA.out.below (Hid.out (And.right (by assumption)))) hsm.sl).mono ?_; rintro e w' ⟨v4, rfl, hs4, hb8⟩))
          have hbx := (And.right ‹_ ∧ Hid _›).out
          have HBX := Lib.hid (bl_step HBI.out hbx)
          rw [allL_or HOL.out] at hs4
          have HA2 := Lib.hid hs4
          clear hbx hs4 hsm
          go_wp2_with fail
          go_roundg (M.length - (j + 1))
          case measure => omega
          case rel => exact ⟨j + 1, by omega, rfl, by go_num, by unfold Hid; rw [HT.out]; exact HA2.out, HBX.out⟩
        · obtain rfl : j = M.length := by omega
          rw [List.take_length] at HA
          have HA' : Hid (SlP wr u13 (placesOf (setAt s ws f x (k + 1)))) := by
            have := HA.out
            rw [HMD.out, stepM_all] at this
            exact this
          clear HA
          obtain ⟨A9, c9, rfl, _, _⟩ := HA'.out.sl.open_
          obtain ⟨vs, hov, hvl, hvr⟩ := HO2.out.below HBI.out
          have HV := Lib.hid hov
          have HVL := Lib.hid hvl
          have HVR := Lib.hid hvr
          have HBB := Lib.hid (bl_step HB2.out HBI.out)
          have hvn : vs.length = k + 1 := by rw [hvl, refSets_len]
          clear hov hvl hvr
          go_wp2_with (at_builtin; refine wp_push (cs := valCs) (base := w1.heap.size) rfl _ _ _ rfl (.slice none 0 0) 24 Tryz.underlying96 info34 rfl (by decide) (.slice (some ⟨b, o, none⟩) (k + 1) c) vs (.slice A9 (placesOf (setAt s ws f x (k + 1))).length c9) rfl (HV.out.alloc _) wr.heap.size 1 1 rfl rfl (0, 0) 34 (blk_new _ _) rfl (by intro u hu; simp [valCs] at hu; subst hu; rfl) (by omega) (by decide) (alloc_ge HBB.out.size _) ?_; intro v' W4 hown' hgrow; have HO4 := Lib.hid (OwnSl.pushed (HV.out.alloc _) HVL.out (fun i u xs e1 e2 => (HVR.out i u xs e1 e2).below (bl_alloc (Below.refl _ _) _)) (HA'.out.below (bl_alloc (Below.refl _ _) _)) hown' hgrow); have HB4 : Hid (Below w1.heap.size w1 W4) := bl_push (bl_alloc HBB.out _) (HV.out.alloc _) hgrow (Nat.le_refl _) (alloc_ge HBB.out.size _); clear hown' hgrow)
          go_roundg (N - (k + 1))
          case measure => omega
          case rel => exact ⟨k + 1, by omega, rfl, by go_num, by unfold Hid; rw [refSets_succ]; exact HO4.out, HB4.out⟩
    · obtain rfl : k = N := by omega
      have hto : ¬ x.hl + (k : Int) < h := by omega
      go_wp2_with fail
      exact bodyPost_ret (v := u11) (by simp [results, Tryz.results80, go_sem]) rfl ⟨_, rfl, by
        obtain ⟨vs, ho, hl, hr⟩ := HO.out
        exact ⟨vs, ho.mono HB1.out.size, hl, hr⟩, bl_step HB1.out HB.out⟩
end Go.Proofs.YtjekioabkmijbaaGreatDoor
/- The reference's CheckWind. -/
set_option linter.unusedVariables false
set_option linter.unusedSimpArgs false
namespace Go.Proofs.YtjekioabkmijbaaGreatDoor
open Go.RowKit
set_option maxRecDepth 100000 in
theorem eqRange (a b c d : Int) (w : World) : (Op.equalIn 10000 28 (.agg #[iv a, iv b]) (.agg #[iv c, iv d])).run Tryz.prog w = .ok (a == c && b == d) w := by
  have hf : Tryz.prog.fieldsOf 28 = #[{ name := "Low", type := 3, offset := 0, embedded := false, tag := "", pkgPath := "", byteOffset := 0 },
          { name := "High", type := 3, offset := 1, embedded := false, tag := "", pkgPath := "", byteOffset := 8 }] := by simp [Program.fieldsOf, Tryz.underlying28]
  obtain ⟨i0, hi⟩ := info3is
  have hc : Tryz.prog.cellsOf 3 = 1 := by kernel_rfl
  have he : ∀ (a b : Int) (w : World), (Op.equalIn 9999 3 (.int .i64 a) (.int .i64 b)).run Tryz.prog w = .ok (a == b) w := fun a b w => by simp [go_sem]
  rw [show (10000 : Nat) = 9999 + 1 from rfl, run_equalIn_struct w 9999 28 _ _ (by rw [hf]; exact Tryz.underlying28) (by kernel_rfl), hf]
  simp only [Op.eqFields, part]
  simp [go_sem, he]
  by_cases e0 : a = c <;> by_cases e1 : b = d <;> simp [e0, e1, go_sem, he]
def zeroB (x : DWind) : Bool := (x.fr == 0 && x.un == 0) && ((x.al == 0 && x.ah == 0) && (x.sl == 0 && x.sh == 0))
def gustB (x : DWind) : Bool := ((inB x.fr 0 1000000 && inB x.un 0 1000000) && decide (x.fr ≤ x.un)) && (rangeOk x.al x.ah (-2) 2 && rangeOk x.sl x.sh (-2) 2)
theorem windB (x : DWind) : windOk x = ((inB x.id 1 1000000 && inB x.kn 0 1000000) && (inB x.vo 0 1000000 && if 0 < x.vo then zeroB x else gustB x)) := by
  unfold windOk
  have e1 : x.vo = 0 → gustOk x = (inB x.vo 0 1000000 && gustB x) := fun h => by
    rw [Bool.eq_iff_iff]
    unfold gustOk gustB
    simp only [Bool.and_eq_true, inB_iff, decide_eq_true_eq, h]
    constructor
    · rintro ⟨⟨⟨a, b⟩, c⟩, d⟩; exact ⟨by omega, ⟨⟨by omega, by omega⟩, by omega⟩, c, d⟩
    · rintro ⟨_, ⟨⟨a, b⟩, c⟩, d, e⟩; exact ⟨⟨⟨by omega, by omega⟩, d⟩, e⟩
  have e2 : x.vo ≠ 0 → voidOk x = (inB x.vo 0 1000000 && if 0 < x.vo then zeroB x else gustB x) := fun h => by
    by_cases h0 : 0 < x.vo
    · rw [if_pos h0, Bool.eq_iff_iff]
      unfold voidOk zeroB
      simp only [Bool.and_eq_true, inB_iff, beq_iff_eq]
      omega
    · have : inB x.vo 0 1000000 = false := inB_false (by omega)
      rw [this, Bool.false_and]
      unfold voidOk
      rw [show inB x.vo 1 1000000 = false from inB_false (by omega)]; rfl
  by_cases h : x.vo = 0
  · rw [if_pos h, e1 h, if_neg (by omega)]
  · rw [if_neg h, e2 h]
set_option maxHeartbeats 8000000 in
set_option maxRecDepth 20000 in
theorem ckWindR_calls (x : DWind) (w : World) : Calls Tryz.prog 56 #[windV x] w fun e w' => e = .returned (iv (errWind x)) ∧ Below w.heap.size w w' := by
  have HE0 : Hid (errWind x = if windOk x then 0 else 1) := rfl
  rw [windB] at HE0
  have hb0 : Hid (Below w.heap.size w (w.alloc (.cells (windA x) 53))) := bl_alloc (Below.refl _ _) _
  have hb1 : Hid (Below w.heap.size w ((w.alloc (.cells (windA x) 53)).alloc (.cells #[iv 0, iv 0] 28))) := bl_alloc hb0.out _
  cases q1 : inB x.id 1 1000000 with
  | false =>
    rw [q1] at HE0
    go_enter Tryz.func56, Tryz.ntmps56
    go_wp2_with (go_at_call 106; refine (within106_calls _ _ _ _).mono ?_; rintro e w' ⟨rfl, rfl⟩; simp only [q1])
    exact bodyPost_ret (v := iv (errWind x)) (by rw [HE0.out]; simp [results, Tryz.results56, go_sem]) rfl ⟨rfl, hb0.out⟩
  | true =>
  cases q2 : inB x.kn 0 1000000 with
  | false =>
    rw [q1, q2] at HE0
    go_enter Tryz.func56, Tryz.ntmps56
    go_wp2_with (first | (go_at_call 106; refine (within106_calls _ _ _ _).mono ?_; rintro e w' ⟨rfl, rfl⟩; simp only [q1]) | (go_at_call 122; refine (hourR_calls _ _).mono ?_; rintro e w' ⟨rfl, rfl⟩; simp only [q2]))
    exact bodyPost_ret (v := iv (errWind x)) (by rw [HE0.out]; simp [results, Tryz.results56, go_sem]) rfl ⟨rfl, hb0.out⟩
  | true =>
  cases q3 : inB x.vo 0 1000000 with
  | false =>
    rw [q1, q2, q3] at HE0
    go_enter Tryz.func56, Tryz.ntmps56
    go_wp2_with (first | (go_at_call 106; refine (within106_calls _ _ _ _).mono ?_; rintro e w' ⟨rfl, rfl⟩; simp only [q1, q3]) | (go_at_call 122; refine (hourR_calls _ _).mono ?_; rintro e w' ⟨rfl, rfl⟩; simp only [q2]))
    exact bodyPost_ret (v := iv (errWind x)) (by rw [HE0.out]; simp [results, Tryz.results56, go_sem]) rfl ⟨rfl, hb0.out⟩
  | true =>
    rw [q1, q2, q3] at HE0
    simp only [Bool.and_self, Bool.true_and] at HE0
    by_cases h0 : 0 < x.vo
    · rw [if_pos h0] at HE0
      unfold zeroB at HE0
      have he1 := eqRange x.al x.ah 0 0
      have he2 := eqRange x.sl x.sh 0 0
      cases r1 : x.fr == 0 with
      | false =>
        have r1' : (x.fr != 0) = true := by simp [bne, r1]
        rw [r1] at HE0
        go_enter Tryz.func56, Tryz.ntmps56
        go_wp2_with (first | (go_at_call 106; refine (within106_calls _ _ _ _).mono ?_; rintro e w' ⟨rfl, rfl⟩; simp only [q1, q3]) | (go_at_call 122; refine (hourR_calls _ _).mono ?_; rintro e w' ⟨rfl, rfl⟩; simp only [q2]))
        exact bodyPost_ret (v := iv (errWind x)) (by rw [HE0.out]; simp [results, Tryz.results56, go_sem]) rfl ⟨rfl, hb1.out⟩
      | true =>
        have r1' : (x.fr != 0) = false := by simp [bne, r1]
        cases r2 : x.un == 0 with
        | false =>
          have r2' : (x.un != 0) = true := by simp [bne, r2]
          rw [r1, r2] at HE0
          go_enter Tryz.func56, Tryz.ntmps56
          go_wp2_with (first | (go_at_call 106; refine (within106_calls _ _ _ _).mono ?_; rintro e w' ⟨rfl, rfl⟩; simp only [q1, q3]) | (go_at_call 122; refine (hourR_calls _ _).mono ?_; rintro e w' ⟨rfl, rfl⟩; simp only [q2]))
          exact bodyPost_ret (v := iv (errWind x)) (by rw [HE0.out]; simp [results, Tryz.results56, go_sem]) rfl ⟨rfl, hb1.out⟩
        | true =>
          have r2' : (x.un != 0) = false := by simp [bne, r2]
          cases r3 : (x.al == 0 && x.ah == 0) with
          | false =>
            rw [r1, r2, r3] at HE0
            rw [r3] at he1
            go_enter Tryz.func56, Tryz.ntmps56
            go_wp2_with (first | (go_at_call 106; refine (within106_calls _ _ _ _).mono ?_; rintro e w' ⟨rfl, rfl⟩; simp only [q1, q3]) | (go_at_call 122; refine (hourR_calls _ _).mono ?_; rintro e w' ⟨rfl, rfl⟩; simp only [q2]))
            exact bodyPost_ret (v := iv (errWind x)) (by rw [HE0.out]; simp [results, Tryz.results56, go_sem]) rfl ⟨rfl, hb1.out⟩
          | true =>
            cases r4 : (x.sl == 0 && x.sh == 0)
            all_goals
              rw [r1, r2, r3, r4] at HE0
              rw [r3] at he1
              rw [r4] at he2
              go_enter Tryz.func56, Tryz.ntmps56
              go_wp2_with (first | (go_at_call 106; refine (within106_calls _ _ _ _).mono ?_; rintro e w' ⟨rfl, rfl⟩; simp only [q1, q3]) | (go_at_call 122; refine (hourR_calls _ _).mono ?_; rintro e w' ⟨rfl, rfl⟩; simp only [q2]))
              exact bodyPost_ret (v := iv (errWind x)) (by rw [HE0.out]; simp [results, Tryz.results56, go_sem]) rfl ⟨rfl, hb1.out⟩
    · rw [if_neg h0] at HE0
      unfold gustB at HE0
      cases r1 : inB x.fr 0 1000000 with
      | false =>
        rw [r1] at HE0
        go_enter Tryz.func56, Tryz.ntmps56
        go_wp2_with (first | (go_at_call 106; refine (within106_calls _ _ _ _).mono ?_; rintro e w' ⟨rfl, rfl⟩; simp only [q1, q3]) | (go_at_call 122; refine (hourR_calls _ _).mono ?_; rintro e w' ⟨rfl, rfl⟩; simp only [q2, r1]))
        exact bodyPost_ret (v := iv (errWind x)) (by rw [HE0.out]; simp [results, Tryz.results56, go_sem]) rfl ⟨rfl, hb1.out⟩
      | true =>
      cases r2 : inB x.un 0 1000000 with
      | false =>
        rw [r1, r2] at HE0
        go_enter Tryz.func56, Tryz.ntmps56
        go_wp2_with (first | (go_at_call 106; refine (within106_calls _ _ _ _).mono ?_; rintro e w' ⟨rfl, rfl⟩; simp only [q1, q3]) | (go_at_call 122; refine (hourR_calls _ _).mono ?_; rintro e w' ⟨rfl, rfl⟩; simp only [q2, r1, r2]))
        exact bodyPost_ret (v := iv (errWind x)) (by rw [HE0.out]; simp [results, Tryz.results56, go_sem]) rfl ⟨rfl, hb1.out⟩
      | true =>
      by_cases r3 : x.fr ≤ x.un
      rotate_left
      · rw [r1, r2, decide_eq_false r3] at HE0
        go_enter Tryz.func56, Tryz.ntmps56
        go_wp2_with (first | (go_at_call 106; refine (within106_calls _ _ _ _).mono ?_; rintro e w' ⟨rfl, rfl⟩; simp only [q1, q3]) | (go_at_call 122; refine (hourR_calls _ _).mono ?_; rintro e w' ⟨rfl, rfl⟩; simp only [q2, r1, r2]))
        exact bodyPost_ret (v := iv (errWind x)) (by rw [HE0.out]; simp [results, Tryz.results56, go_sem]) rfl ⟨rfl, hb1.out⟩
      · rw [r1, r2, decide_eq_true r3] at HE0
        go_enter Tryz.func56, Tryz.ntmps56
        go_wp2_with (first | (go_at_call 106; refine (within106_calls _ _ _ _).mono ?_; rintro e w' ⟨rfl, rfl⟩; simp only [q1, q3]) | (go_at_call 122; refine (hourR_calls _ _).mono ?_; rintro e w' ⟨rfl, rfl⟩; simp only [q2, r1, r2]))
        refine calls_abs (fun W hW => ?_)
        have g0 : Hid (W.heap[w.heap.size]? = some (.cells (windA x) 53 (0, 0))) := by unfold Hid; rw [hW]; exact blk_alloc (blk_new _ _) _
        have hB : Hid (Below w.heap.size w W) := by unfold Hid; rw [hW]; exact hb1.out
        clear hW hb0 hb1
        refine (ranged_calls _ _ _ _ _).mono ?_
        rintro e w2 ⟨rfl, hb2⟩
        have G2 := Lib.hid (blk_below g0.out hb2)
        have HB2 := Lib.hid (bl_step hB.out hb2)
        clear hb2 g0 hB
        cases r4 : rangeOk x.al x.ah (-2) 2 with
        | false =>
          rw [r4] at HE0
          go_wp2_with fail
          exact bodyPost_ret (v := iv (errWind x)) (by rw [HE0.out]; simp [results, Tryz.results56, go_sem]) rfl ⟨rfl, HB2.out⟩
        | true =>
          rw [r4] at HE0
          obtain ⟨d0, d1, d2, d3, d4, d5, d6, d7, d8⟩ := wind_cells G2.out
          have l0 := blk_lt G2.out
          go_wp2_with fail
          refine (ranged_calls _ _ _ _ _).mono ?_
          rintro e w3 ⟨rfl, hb3⟩
          have HB3 := Lib.hid (bl_step HB2.out hb3)
          clear hb3 d0 d1 d2 d3 d4 d5 d6 d7 d8 l0
          cases r5 : rangeOk x.sl x.sh (-2) 2
          all_goals
            rw [r5] at HE0
            go_wp2_with fail
            exact bodyPost_ret (v := iv (errWind x)) (by rw [HE0.out]; simp [results, Tryz.results56, go_sem]) rfl ⟨rfl, HB3.out⟩
end Go.Proofs.YtjekioabkmijbaaGreatDoor
