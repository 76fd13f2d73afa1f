/- The reference's moves. -/
import Derived.Test.YtjekioabkmijbaaGreatDoorZ42
import Derived.Test.YtjekioabkmijbaaGreatDoorZ11
import Derived.Test.YtjekioabkmijbaaGreatDoorZ00
import Derived.Test.YtjekioabkmijbaaGreatDoorZ36
import Derived.Test.YtjekioabkmijbaaGreatDoorZ18
set_option linter.unusedVariables false
set_option linter.unusedSimpArgs false
namespace Go.Proofs.YtjekioabkmijbaaGreatDoor
open Go.RowKit
/-- The first blocks of a call of the reference's moves. -/
structure MRef (w : World) (A : Array Value) (p : DPlace) (td : DTide) (W : World) : Prop where
  g0 : W.heap[w.heap.size]? = some (.cells A 25 (0, 0))
  g1 : W.heap[w.heap.size + 1]? = some (.cells #[iv p.c, iv p.b] 48 (0, 0))
  g2 : W.heap[w.heap.size + 1 + 1]? = some (.cells #[iv td.al, iv td.ht] 138 (0, 0))
  hB : Below w.heap.size w W
theorem MRef.below {w W W' : World} {A : Array Value} {p : DPlace} {td : DTide} (h : MRef w A p td W) (hb : Below W.heap.size W W') : MRef w A p td W' := ⟨blk_below h.g0 hb, blk_below h.g1 hb, blk_below h.g2 hb, bl_step h.hB hb⟩
theorem MRef.lt {w W : World} {A : Array Value} {p : DPlace} {td : DTide} (h : MRef w A p td W) : w.heap.size + 1 + 1 < W.heap.size := blk_lt h.g2
theorem MRef.drewN {w W : World} {A : Array Value} {p : DPlace} {td : DTide} (h : MRef w A p td W) (n : Nat) : MRef w A p td (W.drewN n) := ⟨h.g0, h.g1, h.g2, bl_drewN h.hB n⟩
/-- A wind's box that holds a gust. -/
def WindBox (g : Nat) (q : Int × Int × Int × Int) (W : World) : Prop := ∃ x : DWind, W.heap[g]? = some (.cells (windA x) 53 (0, 0)) ∧ q = (x.al, x.ah, x.sl, x.sh)
theorem WindBox.below {g : Nat} {q : Int × Int × Int × Int} {W W' : World} (h : WindBox g q W) (hb : Below W.heap.size W W') : WindBox g q W' := by
  obtain ⟨x, h1, h2⟩ := h; exact ⟨x, blk_below h1 hb, h2⟩
theorem one_places {p : DPlace} (h : okP p) : placesOf (bit p ||| 0) = [p] := by rw [Nat.or_zero]; exact places_bit h
theorem two_places {p : DPlace} (h : okP p) (hb : p.b = 0) : placesOf (bit p ||| bit ⟨p.c, 1⟩) = [p, ⟨p.c, 1⟩] := by
  have hq : okP ⟨p.c, 1⟩ := ⟨h.1, h.2.1, by show (0 : Int) ≤ 1; omega, by show (1 : Int) ≤ 6; omega⟩
  rw [← putL_places hq, places_bit h]
  have hne : ¬ (⟨p.c, 1⟩ : DPlace) = p := fun e => by have : (1 : Int) = p.b := congrArg DPlace.b e; omega
  have hlt : ltP ⟨p.c, 1⟩ p = false := ltP_false (fun h => by
    rcases h with h | ⟨_, h⟩
    · exact absurd h (Int.lt_irrefl _)
    · have : (1 : Int) < p.b := h; omega)
  simp [putL, putTo, putStep, hlt, hne]
theorem own1 {g : Nat} {p : DPlace} {W : World} {B : Nat} (h : W.heap[g]? = some (.cells #[iv p.c, iv p.b] 48 (0, 0))) (hb : B ≤ g) : Own DPlace.cs 2 48 B W (.slice (some ⟨g, 0, none⟩) 1 1) [p] :=
  ⟨rfl, .inr ⟨g, 1, _, rfl, hb, h, Nat.le_refl _, by unfold maxLen; omega, rfl, rfl⟩⟩
set_option maxHeartbeats 4000000 in
set_option maxRecDepth 100000 in
theorem movesR_beach (s : DSea) (ws : List DWind) (f : Int) (vh vt vw : Value) (p : DPlace) (h : Int) (w : World) (hk : Sky s ws f vh vt vw w) (hp : placeOk s p = true) (hh : 0 ≤ h ∧ h ≤ 2000000) (hb0 : p.b = 0) :
    Calls Tryz.prog 85 #[.agg #[iv s.cells, iv s.bands, vh, vt], vw, .int .u8 f, placeV p, iv h] w fun e w' => ∃ v', e = .returned v' ∧ SlP w' v' (placesOf (movesM s ws f p h)) ∧ Below w.heap.size w w' := by
  obtain ⟨s1, s2, s3, s4, s5, s6, s7⟩ := seaOk_bounds hk.sea
  obtain ⟨p1, p2, p3, p4⟩ := placeOk_bounds hp
  obtain ⟨h1, h2⟩ := hh
  have hf0 : 0 ≤ f ∧ f ≤ 255 := by rcases hk.f with h | h <;> omega
  obtain ⟨hf1, hf2⟩ := hf0
  obtain ⟨A1, c1, rfl, hc1, _⟩ := hk.hts.open_
  obtain ⟨A2, c2, rfl, hc2, _⟩ := hk.tds.open_
  obtain ⟨A3, c3, rfl, hc3, _⟩ := hk.ws.open_
  obtain ⟨nn, hn⟩ : ∃ nn, nn = s.tds.length := ⟨_, rfl⟩
  obtain ⟨k, hkk⟩ : ∃ k, k = (h % (nn : Int)).toNat := ⟨_, rfl⟩
  have m0 : 0 ≤ h % (nn : Int) := Int.emod_nonneg _ (by omega)
  have m1 : h % (nn : Int) < nn := Int.emod_lt_of_pos _ (by omega)
  have k1 : h % (nn : Int) = (k : Int) := by omega
  have k2 : h.tmod (nn : Int) = (k : Int) := by rw [IntWalk.rem_in _ _ h1]; exact k1
  have k3 : k < nn := by omega
  have k4 : (k : Int) < (nn : Int) := by omega
  have HT : Hid (s.tds[k]? = some (tideAt s h)) := by
    unfold Hid tideAt; rw [← hn, ← hkk, List.getElem?_eq_getElem (by omega), List.getD_eq_getElem?_getD, List.getElem?_eq_getElem (by omega)]; rfl
  obtain ⟨b2, o2, rfl, t0, t1⟩ := hk.tds.tide k _ HT.out
  have k5 : ¬ nn = 0 := by omega
  have j1 : p.c < (s.hts.length : Int) := by omega
  obtain ⟨H, hH⟩ : ∃ H, H = s.hts.getD p.c.toNat 0 := ⟨_, rfl⟩
  obtain ⟨b1, o1, rfl, u0⟩ := hk.hts.int p.c.toNat H (by rw [hH, List.getD_eq_getElem?_getD, List.getElem?_eq_getElem (by omega)]; rfl)
  have HH : Hid (H = s.hts.getD p.c.toNat 0) := hH
  clear hH
  obtain ⟨td, htd⟩ : ∃ td, td = tideAt s h := ⟨_, rfl⟩
  rw [← htd] at t0 t1
  have HTD : Hid (td = tideAt s h) := htd
  clear htd
  have l1 := World.block_lt_of_cell? w _ u0
  have l2 := World.block_lt_of_cell? w _ t0
  have HK := Lib.hid hk
  have HN := Lib.hid hn
  rw [← hn]
  clear hk hn hkk m0 m1
  have e0 : (p.b == 0) = true := by simp [hb0]
  have HB0 := Lib.hid hb0
  clear hb0
  go_enter Tryz.func85, Tryz.ntmps85
  go_wp2_with fail
  refine wp_abs (fun W hW => ?_)
  have g0 : W.heap[w.heap.size]? = some (.cells #[iv s.cells, iv s.bands, .slice (some ⟨b1, o1, none⟩) s.hts.length c1, .slice (some ⟨b2, o2, none⟩) nn c2] 25 (0, 0)) := by rw [hW]; exact blk_alloc (blk_new _ _) _
  have g1 : W.heap[w.heap.size + 1]? = some (.cells #[iv p.c, iv p.b] 48 (0, 0)) := by rw [hW]; exact blk_at _ (by simp)
  have hsz : W.heap.size = w.heap.size + 1 + 1 := by rw [hW]; simp
  have hB : Below w.heap.size w W := by rw [hW]; exact bl_alloc (bl_alloc (Below.refl _ _) _) _
  clear hW
  replace t0 := (hB.cell l2).trans t0
  replace t1 := (hB.cell l2).trans t1
  have a0 := blk_cell g0 0
  have a1 := blk_cell g0 1
  have a2 := blk_cell g0 2
  have a3 := blk_cell g0 3
  have a6 := blk_cell g1 0
  have a7 := blk_cell g1 1
  simp only [List.getElem?_toArray, List.getElem?_cons_zero, List.getElem?_cons_succ] at a0 a1 a2 a3 a6 a7
  have G0 := Lib.hid g0
  have G1 := Lib.hid g1
  have HB := Lib.hid hB
  have HZ := Lib.hid hsz
  have z0 : w.heap.size < W.heap.size := by omega
  have z1 : w.heap.size + 1 < W.heap.size := by omega
  have z4 : b2 < W.heap.size := by omega
  clear g0 g1 hB hsz
  go_region
  have y0 : w.heap.size < W.heap.size + 1 := by omega
  have y1 : w.heap.size + 1 < W.heap.size + 1 := by omega
  go_wp2_with fail
  refine wp_abs (fun W2 hW2 => ?_)
  have hM : MRef w #[iv s.cells, iv s.bands, .slice (some ⟨b1, o1, none⟩) s.hts.length c1, .slice (some ⟨b2, o2, none⟩) nn c2] p td W2 := by
    rw [hW2]; exact ⟨blk_alloc (blk_alloc G0.out _) _, blk_alloc (blk_alloc G1.out _) _, blk_alloc (blk_at _ HZ.out.symm) _, bl_alloc (bl_alloc HB.out _).drew _⟩
  have q3 : W2.heap[W.heap.size + 1]? = some (.cells #[iv p.c, iv p.b] 48 (0, 0)) := by rw [hW2]; exact blk_at _ (by simp)
  clear hW2 a0 a1 a2 a3 a6 a7
  have v0 := blk_cell hM.g0 2
  have v1 := blk_cell hM.g1 0
  have v2 := blk_cell hM.g2 1
  have v3 := blk_cell hM.g1 1
  simp only [List.getElem?_toArray, List.getElem?_cons_zero, List.getElem?_cons_succ] at v0 v1 v2 v3
  replace u0 := (hM.hB.cell l1).trans u0
  rw [← HZ.out] at v2
  have hlt := hM.lt
  have z5 : w.heap.size < W2.heap.size := by omega
  have z6 : w.heap.size + 1 < W2.heap.size := by omega
  have z7 : W.heap.size < W2.heap.size := by have := HZ.out; omega
  have z8 : b1 < W2.heap.size := World.block_lt_of_cell? _ _ u0
  have HM := Lib.hid hM
  have Q3 := Lib.hid q3
  have hpo : okP p := okP_of HK.out.sea hp
  clear hM q3 hlt y0 y1 z0 z1 z4
  by_cases hge : H ≤ td.ht
  · have HE : Hid (placesOf (movesM s ws f p h) = [p, ⟨p.c, 1⟩]) := by unfold Hid movesM; rw [if_pos HB0.out, ← HH.out, ← HTD.out, if_pos hge]; exact two_places hpo HB0.out
    have HO : Hid (Own DPlace.cs 2 48 W.heap.size (W2.drewN 0) (.slice (some ⟨W.heap.size + 1, 0, none⟩) 1 1) [p]) := own1 Q3.out (by omega)
    go_wp2_with fail
    go_quiet (fail)
    have HOQ : Hid (Own DPlace.cs 2 48 W.heap.size (W2.drewN nq) (.slice (some ⟨W.heap.size + 1, 0, none⟩) 1 1) [p]) := own1 Q3.out (by omega)
    have HBQ : Hid (Below w.heap.size w (W2.drewN nq)) := bl_drewN HM.out.hB _
    have v1' : (W2.drewN nq).cell? ⟨w.heap.size + 1, 0, none⟩ = some (iv p.c) := v1
    have HSZ : Hid (W.heap.size ≤ (W2.drewN nq).heap.size) := Nat.le_of_lt z7
    go_wp2_with (at_builtin; refine wp_push (cs := DPlace.cs) (base := W.heap.size) rfl _ _ _ rfl (.agg #[iv 0, iv 0]) 16 Tryz.underlying34 info48 rfl (by decide) (.slice (some ⟨W.heap.size + 1, 0, none⟩) 1 1) [p] (⟨p.c, 1⟩ : DPlace) rfl (HOQ.out.alloc _) (W2.drewN nq).heap.size 1 1 rfl rfl (0, 0) 48 (blk_new _ _) rfl (place_cells1 _) (by simp) (by decide) (alloc_ge HSZ.out _) ?_; intro v1 W3 hown' hgrow; have HO1 := Lib.hid hown'; have HB3 : Hid (Below w.heap.size w W3) := bl_push (bl_alloc HBQ.out _) (HOQ.out.alloc _) hgrow (by have := HZ.out; omega) (by have := HBQ.out.size; exact alloc_ge this _); clear hown' hgrow)
    refine bodyPost_ret (v := v1) (by simp [results, Tryz.results85, go_sem]) rfl ⟨_, rfl, ?_, HB3.out⟩
    rw [HE.out]; exact HO1.out.slp (by simp)
  · have HE : Hid (placesOf (movesM s ws f p h) = [p]) := by unfold Hid movesM; rw [if_pos HB0.out, ← HH.out, ← HTD.out, if_neg hge]; exact one_places hpo
    go_wp2_with fail
    go_quiet (fail)
    have HOQ : Hid (Own DPlace.cs 2 48 W.heap.size (W2.drewN nq) (.slice (some ⟨W.heap.size + 1, 0, none⟩) 1 1) [p]) := own1 Q3.out (by omega)
    have HBQ : Hid (Below w.heap.size w (W2.drewN nq)) := bl_drewN HM.out.hB _
    go_wp2_with fail
    refine bodyPost_ret (v := .slice (some ⟨W.heap.size + 1, 0, none⟩) 1 1) (by simp [results, Tryz.results85, go_sem]) rfl ⟨_, rfl, ?_, HBQ.out⟩
    rw [HE.out]; exact HOQ.out.slp (by simp)
set_option maxHeartbeats 4000000 in
set_option maxRecDepth 100000 in
theorem movesR_afloat (s : DSea) (ws : List DWind) (f : Int) (vh vt vw : Value) (p : DPlace) (h : Int) (w : World) (hk : Sky s ws f vh vt vw w) (hp : placeOk s p = true) (hh : 0 ≤ h ∧ h ≤ 2000000) (hb0 : ¬ p.b = 0) :
    Calls Tryz.prog 85 #[.agg #[iv s.cells, iv s.bands, vh, vt], vw, .int .u8 f, placeV p, iv h] w fun e w' => ∃ v', e = .returned v' ∧ SlP w' v' (placesOf (movesM s ws f p h)) ∧ Below w.heap.size w w' := by
  obtain ⟨s1, s2, s3, s4, s5, s6, s7⟩ := seaOk_bounds hk.sea
  obtain ⟨p1, p2, p3, p4⟩ := placeOk_bounds hp
  obtain ⟨h1, h2⟩ := hh
  have hf0 : 0 ≤ f ∧ f ≤ 255 := by rcases hk.f with h | h <;> omega
  obtain ⟨hf1, hf2⟩ := hf0
  obtain ⟨A1, c1, rfl, hc1, _⟩ := hk.hts.open_
  obtain ⟨A2, c2, rfl, hc2, _⟩ := hk.tds.open_
  obtain ⟨A3, c3, rfl, hc3, _⟩ := hk.ws.open_
  obtain ⟨nn, hn⟩ : ∃ nn, nn = s.tds.length := ⟨_, rfl⟩
  obtain ⟨k, hkk⟩ : ∃ k, k = (h % (nn : Int)).toNat := ⟨_, rfl⟩
  have m0 : 0 ≤ h % (nn : Int) := Int.emod_nonneg _ (by omega)
  have m1 : h % (nn : Int) < nn := Int.emod_lt_of_pos _ (by omega)
  have k1 : h % (nn : Int) = (k : Int) := by omega
  have k2 : h.tmod (nn : Int) = (k : Int) := by rw [IntWalk.rem_in _ _ h1]; exact k1
  have k3 : k < nn := by omega
  have k4 : (k : Int) < (nn : Int) := by omega
  have HT : Hid (s.tds[k]? = some (tideAt s h)) := by
    unfold Hid tideAt; rw [← hn, ← hkk, List.getElem?_eq_getElem (by omega), List.getD_eq_getElem?_getD, List.getElem?_eq_getElem (by omega)]; rfl
  obtain ⟨b2, o2, rfl, t0, t1⟩ := hk.tds.tide k _ HT.out
  have k5 : ¬ nn = 0 := by omega
  have j1 : p.c < (s.hts.length : Int) := by omega
  obtain ⟨H, hH⟩ : ∃ H, H = s.hts.getD p.c.toNat 0 := ⟨_, rfl⟩
  obtain ⟨b1, o1, rfl, u0⟩ := hk.hts.int p.c.toNat H (by rw [hH, List.getD_eq_getElem?_getD, List.getElem?_eq_getElem (by omega)]; rfl)
  have HH : Hid (H = s.hts.getD p.c.toNat 0) := hH
  clear hH
  obtain ⟨td, htd⟩ : ∃ td, td = tideAt s h := ⟨_, rfl⟩
  rw [← htd] at t0 t1
  have HTD : Hid (td = tideAt s h) := htd
  clear htd
  have l1 := World.block_lt_of_cell? w _ u0
  have l2 := World.block_lt_of_cell? w _ t0
  have HK := Lib.hid hk
  have HN := Lib.hid hn
  rw [← hn]
  clear hk hn hkk m0 m1
  have e0 : (p.b == 0) = false := by simp [hb0]
  have HB0 := Lib.hid hb0
  clear hb0
  go_enter Tryz.func85, Tryz.ntmps85
  go_wp2_with fail
  refine wp_abs (fun W hW => ?_)
  have g0 : W.heap[w.heap.size]? = some (.cells #[iv s.cells, iv s.bands, .slice (some ⟨b1, o1, none⟩) s.hts.length c1, .slice (some ⟨b2, o2, none⟩) nn c2] 25 (0, 0)) := by rw [hW]; exact blk_alloc (blk_new _ _) _
  have g1 : W.heap[w.heap.size + 1]? = some (.cells #[iv p.c, iv p.b] 48 (0, 0)) := by rw [hW]; exact blk_at _ (by simp)
  have hsz : W.heap.size = w.heap.size + 1 + 1 := by rw [hW]; simp
  have hB : Below w.heap.size w W := by rw [hW]; exact bl_alloc (bl_alloc (Below.refl _ _) _) _
  clear hW
  replace t0 := (hB.cell l2).trans t0
  replace t1 := (hB.cell l2).trans t1
  have a0 := blk_cell g0 0
  have a1 := blk_cell g0 1
  have a2 := blk_cell g0 2
  have a3 := blk_cell g0 3
  have a6 := blk_cell g1 0
  have a7 := blk_cell g1 1
  simp only [List.getElem?_toArray, List.getElem?_cons_zero, List.getElem?_cons_succ] at a0 a1 a2 a3 a6 a7
  have G0 := Lib.hid g0
  have G1 := Lib.hid g1
  have HB := Lib.hid hB
  have HZ := Lib.hid hsz
  have z0 : w.heap.size < W.heap.size := by omega
  have z1 : w.heap.size + 1 < W.heap.size := by omega
  have z4 : b2 < W.heap.size := by omega
  clear g0 g1 hB hsz
  go_region
  have y0 : w.heap.size < W.heap.size + 1 := by omega
  have y1 : w.heap.size + 1 < W.heap.size + 1 := by omega
  go_wp2_with fail
  refine calls_abs (fun W2 hW2 => ?_)
  have hM : MRef w #[iv s.cells, iv s.bands, .slice (some ⟨b1, o1, none⟩) s.hts.length c1, .slice (some ⟨b2, o2, none⟩) nn c2] p td W2 := by
    rw [hW2]; exact ⟨blk_alloc G0.out _, blk_alloc G1.out _, blk_at _ HZ.out.symm, (bl_alloc HB.out _).drew⟩
  clear hW2
  refine (at125_calls ws _ h W2 HK.out.winds.1 (HK.out.ws.below hM.hB)).mono ?_
  rintro e W3 ⟨rfl, hb3⟩
  rw [atV_eq]
  have hM3 := Lib.hid (hM.below hb3)
  clear hM hb3 a0 a1 a2 a3 a6 a7 y0 y1
  obtain ⟨o, ho⟩ : ∃ o, o = windAt ws h := ⟨_, rfl⟩
  rw [← ho]
  have HO : Hid (o = windAt ws h) := ho
  clear ho
  go_upto_if 57 with fail
  go_cut [] (fun wx => MRef w #[iv s.cells, iv s.bands, .slice (some ⟨b1, o1, none⟩) s.hts.length c1, .slice (some ⟨b2, o2, none⟩) nn c2] p td wx ∧ WindBox W3.heap.size (gustO o) wx)
  case first =>
    cases o with
    | none =>
      have q1 : Hid ((W3.alloc (.cells (windA zeroW) 53)).heap[W3.heap.size]? = some (.cells (windA zeroW) 53 (0, 0))) := blk_new _ _
      have fz := fun i => blk_frozen q1.out i
      go_wp2_with fail
      go_meet
      refine ⟨hM3.out.below ?_, ⟨⟨0, 0, 0, 0, -2, 2, -2, 2, 0⟩, ?_, rfl⟩⟩
      · repeat (first | (with_reducible exact Below.refl _ _) | (with_reducible exact bl_alloc (Below.refl _ _) _) | refine Below.setCell ?_ (by first | (simp; done) | (simp; omega)) _)
      · exact blk_new _ _
    | some x =>
      go_wp2_with fail
      go_meet
      exact ⟨hM3.out.below (bl_alloc (Below.refl _ _) _), ⟨x, blk_new _ _, rfl⟩⟩
  case rest =>
    rename World => W4
    have HG : Hid (gust ws h = gustO o) := by unfold Hid; rw [gust_eq, HO.out]
    obtain ⟨⟨n1, n2⟩, n3, n4⟩ : (-2 ≤ (gustO o).1 ∧ (gustO o).2.1 ≤ 2) ∧ (-2 ≤ (gustO o).2.2.1 ∧ (gustO o).2.2.2 ≤ 2) := by rw [HO.out]; exact gustO_bounds _ _ HK.out.winds
    obtain ⟨hM4, x, hxb, hgx⟩ := hcut
    rw [hgx] at n1 n2 n3 n4 HG
    dsimp only at n1 n2 n3 n4
    have HM4 := Lib.hid hM4
    have HXB := Lib.hid hxb
    clear hgx hM4 hxb
    obtain ⟨v0, v1, v2, v3, v4, v5, v6, v7, v8⟩ := wind_cells HXB.out
    have lx := blk_lt HXB.out
    go_wp2_with fail
    have ff := HK.out.f
    have ta : -3 ≤ td.al ∧ td.al ≤ 3 := by rw [HTD.out]; exact tide_bounds HK.out.sea h
    obtain ⟨ta1, ta2⟩ := ta
    go_loopg [15, 16] (x.ah + 1 - x.al).toNat (fun n u i wr => ∃ k : Nat, n = (x.ah + 1 - x.al).toNat - k ∧ Hid (k ≤ (x.ah + 1 - x.al).toNat) ∧ i = .int .i64 (x.al + k) ∧ Hid (SlP wr u (placesOf ((pfx x.al k).foldl (fun m a => rowM s f p td.al x.sl x.sh a m) 0))) ∧ Hid (Below W4.heap.size W4 wr))
    case atStart => exact ⟨0, rfl, Nat.zero_le _, by simp, by unfold Hid; rw [show (pfx x.al 0).foldl (fun m a => rowM s f p td.al x.sl x.sh a m) 0 = 0 from rfl, places_zero]; exact SlP.nil _, Below.refl _ _⟩
    case round =>
      clear v0 v1 v2 v3 v4 v5 v6 v7 v8 lx
      obtain ⟨k, hn, hk, rfl, HOO, HB4⟩ := hrel
      have hk := hk.out
      obtain ⟨v0, v1, v2, v3, v4, v5, v6, v7, v8⟩ := wind_cells (blk_below HXB.out HB4.out)
      have lx := blk_lt (blk_below HXB.out HB4.out)
      by_cases hlt : x.al + k ≤ x.ah
      · obtain ⟨M, hMd⟩ : ∃ q, q = (pfx x.al k).foldl (fun m a => rowM s f p td.al x.sl x.sh a m) 0 := ⟨_, rfl⟩
        rw [← hMd] at HOO
        have HMM := Lib.hid hMd
        clear hMd
        go_wp2_with fail
        go_loopg [15, 17] (x.sh + 1 - x.sl).toNat (fun n u i wr => ∃ j : Nat, n = (x.sh + 1 - x.sl).toNat - j ∧ Hid (j ≤ (x.sh + 1 - x.sl).toNat) ∧ i = .int .i64 (x.sl + j) ∧ Hid (SlP wr u (placesOf ((pfx x.sl j).foldl (fun m r => m ||| bit (landing s f p td.al (x.al + k) r)) M))) ∧ Hid (Below W4.heap.size W4 wr))
        case atStart => exact ⟨0, rfl, Nat.zero_le _, by simp, HOO.out, HB4.out⟩
        case round =>
          clear v0 v1 v2 v3 v4 v5 v6 v7 v8 lx HOO HB4
          obtain ⟨j, hn2, hj, rfl, HOO, HB4⟩ := hrel
          have hj := hj.out
          obtain ⟨v0, v1, v2, v3, v4, v5, v6, v7, v8⟩ := wind_cells (blk_below HXB.out HB4.out)
          have lx := blk_lt (blk_below HXB.out HB4.out)
          by_cases hlt2 : x.sl + j ≤ x.sh
          · have HMB := Lib.hid (HM4.out.below HB4.out)
            have a0 := blk_cell HMB.out.g0 0
            have a1 := blk_cell HMB.out.g0 1
            have a6 := blk_cell HMB.out.g1 0
            have a7 := blk_cell HMB.out.g1 1
            have a8 := blk_cell HMB.out.g2 0
            rw [← HZ.out] at a8
            simp only [List.getElem?_toArray, List.getElem?_cons_zero, List.getElem?_cons_succ] at a0 a1 a6 a7 a8
            have hl2 := HMB.out.lt
            have z5 : w.heap.size < wr.heap.size := by omega
            have z6 : w.heap.size + 1 < wr.heap.size := by omega
            have z7 : W.heap.size < wr.heap.size := by have := HZ.out; omega
            obtain ⟨x1, hx1⟩ : ∃ x1, x1 = (x.al + (k : Int)) * f := ⟨_, rfl⟩
            obtain ⟨x2, hx2⟩ : ∃ x2, x2 = (x.sl + (j : Int)) * f := ⟨_, rfl⟩
            have b1' : -4 ≤ x1 ∧ x1 ≤ 4 := by rcases ff with rfl | rfl <;> constructor <;> omega
            have b2' : -4 ≤ x2 ∧ x2 ≤ 4 := by rcases ff with rfl | rfl <;> constructor <;> omega
            obtain ⟨b11, b12⟩ := b1'
            obtain ⟨b21, b22⟩ := b2'
            have w1 : IntKind.i64.wrap ((x.al + (k : Int)) * f) = x1 := by rw [← hx1]; exact wrap_small _ (by omega) (by omega)
            have w2 : IntKind.i64.wrap ((x.sl + (j : Int)) * f) = x2 := by rw [← hx2]; exact wrap_small _ (by omega) (by omega)
            have hL : landing s f p td.al (x.al + k) (x.sl + j) = ⟨clamp (p.c + td.al + x1) 0 (s.cells - 1), clamp (p.b - x2) 0 s.bands⟩ := by rw [hx1, hx2]; rfl
            have HLD := Lib.hid hL
            have hpl : okP (landing s f p td.al (x.al + k) (x.sl + j)) := okP_of HK.out.sea (landing_ok HK.out.sea f p td.al (x.al + k) (x.sl + j))
            have hpn := places_len ((pfx x.sl j).foldl (fun m r => m ||| bit (landing s f p td.al (x.al + k) r)) M)
            have HC := Lib.hid (put_calls _ (landing s f p td.al (x.al + k) (x.sl + j)) _ _ (by omega) HOO.out)
            rw [putL_places hpl, ← fold_snoc (fun m r => m ||| bit (landing s f p td.al (x.al + k) r))] at HC
            rw [hL] at HC
            clear hx1 hx2 hL hpl hpn
            go_wp2_with (first | (go_at_call 146; refine (bounded_calls _ _ _ _ (by omega)).mono ?_; rintro e w' ⟨rfl, rfl⟩))
            refine HC.out.mono ?_
            rintro e w3 ⟨v', rfl, ho, hb3⟩
            have HO2 := Lib.hid ho
            have HB5 := Lib.hid (bl_step HB4.out hb3)
            clear ho hb3 v0 v1 v2 v3 v4 v5 v6 v7 v8 lx a0 a1 a6 a7 a8 hl2 z5 z6 z7 w1 w2
            go_wp2_with fail
            go_roundg ((x.sh + 1 - x.sl).toNat - (j + 1))
            case measure => omega
            case rel => exact ⟨j + 1, rfl, by show j + 1 ≤ _; omega, by go_num, HO2.out, HB5.out⟩
          · go_wp2_with fail
            have ej : j = (x.sh + 1 - x.sl).toNat := by omega
            go_roundg ((x.ah + 1 - x.al).toNat - (k + 1))
            case measure => omega
            case rel => exact ⟨k + 1, rfl, by show k + 1 ≤ _; omega, by go_num, by unfold Hid; rw [fold_snoc, ← HMM.out]; have := HOO.out; rw [ej] at this; exact this, HB4.out⟩
      · have ek : k = (x.ah + 1 - x.al).toNat := by omega
        have HE : Hid (movesM s ws f p h = (pfx x.al k).foldl (fun m a => rowM s f p td.al x.sl x.sh a m) 0) := by unfold Hid movesM; rw [if_neg HB0.out, ← HTD.out, HG.out, ek]; rfl
        clear hn hk ek
        go_wp2_with fail
        refine bodyPost_ret (v := u15) (by simp [results, Tryz.results85, go_sem]) rfl ⟨_, rfl, by rw [HE.out]; exact HOO.out, bl_step HM4.out.hB HB4.out⟩
theorem movesR_calls (s : DSea) (ws : List DWind) (f : Int) (vh vt vw : Value) (p : DPlace) (h : Int) (w : World) (hk : Sky s ws f vh vt vw w) (hp : placeOk s p = true) (hh : 0 ≤ h ∧ h ≤ 2000000) :
    Calls Tryz.prog 85 #[.agg #[iv s.cells, iv s.bands, vh, vt], vw, .int .u8 f, placeV p, iv h] w fun e w' => ∃ v', e = .returned v' ∧ SlP w' v' (placesOf (movesM s ws f p h)) ∧ Below w.heap.size w w' := by
  by_cases hb : p.b = 0
  · exact movesR_beach s ws f vh vt vw p h w hk hp hh hb
  · exact movesR_afloat s ws f vh vt vw p h w hk hp hh hb
end Go.Proofs.YtjekioabkmijbaaGreatDoor
/- Plain: how the reference refuses a record, and the first record of a log that is refused; the question's error. -/
set_option linter.unusedVariables false
set_option linter.unusedSimpArgs false
namespace Go.Proofs.YtjekioabkmijbaaGreatDoor
def thereB (x y : DWind) : Bool := y.id == x.vo && y.vo == 0
def againB (x y : DWind) : Bool := decide (0 < x.vo) && y.vo == x.vo
def errRef (l : List DWind) (x : DWind) : Int :=
  if 200 ≤ l.length then 2
  else if windOk x = false then 1
  else if l.any (fun y => y.id == x.id) then 6
  else if (l.getLast?.any fun y => decide (x.kn < y.kn)) then 7
  else if 0 < x.vo ∧ l.any (thereB x) = false then 5
  else if l.any (againB x) then 6
  else 0
theorem windOk_vo {x : DWind} (h : windOk x = true) : 0 ≤ x.vo := by
  unfold windOk at h
  split at h
  · omega
  · simp [voidOk, inB] at h; omega
theorem errRef_eq (l : List DWind) (x : DWind) : errRef l x = errNext l x := by
  unfold errRef errNext
  split
  · rfl
  split
  · rfl
  rename_i hw
  have hv := windOk_vo (by simpa using hw)
  split
  · rfl
  split
  · rfl
  have e1 : l.any (thereB x) = l.any (fun y => y.vo == 0 && y.id == x.vo) := by
    congr 1; funext y; unfold thereB; rw [Bool.and_comm]
  by_cases h0 : x.vo = 0
  · rw [if_pos h0, if_neg (by omega)]
    have : l.any (againB x) = false := by
      rw [List.any_eq_false]; intro y _; unfold againB; simp [h0]
    rw [this]; rfl
  · have e2 : l.any (againB x) = l.any (fun y => y.vo == x.vo) := by
      congr 1; funext y; unfold againB; simp [show 0 < x.vo by omega]
    rw [if_neg h0, e1, e2]
    have h1 : 0 < x.vo := by omega
    simp only [h1, true_and]
/-- The error of a question with a place that every sea has. -/
theorem placeOk_zero {s : DSea} (h : seaOk s = true) : placeOk s ⟨0, 0⟩ = true := by
  unfold seaOk at h
  simp only [Bool.and_eq_true, decide_eq_true_eq] at h
  unfold placeOk
  simp only [Bool.and_eq_true, decide_eq_true_eq]
  omega
theorem orE_assoc (a b c : Int) : orE (orE a b) c = orE a (orE b c) := by
  unfold orE
  by_cases h : a = 0
  · simp [h]
  · simp [h]
theorem errAsk_zero (s : DSea) (l : List DWind) (x : DLoss) (f h : Int) : errAsk s l x f (some ⟨0, 0⟩) h = errAsk s l x f none h := by
  cases hs : seaOk s with
  | false =>
    have : errSea s = 1 := by unfold errSea; rw [hs]; rfl
    unfold errAsk errSail
    rw [this]
    rfl
  | true =>
    have : errPlace s ⟨0, 0⟩ = 0 := by unfold errPlace; rw [placeOk_zero hs]; rfl
    unfold errAsk
    simp only [this]
/-- What the reference asks, one question behind the other. -/
def errAskR (s : DSea) (l : List DWind) (x : DLoss) (f : Int) (p : DPlace) (h : Int) : Int :=
  orE (errSea s) (orE (errLog l).2 (orE (errLoss s x) (if f = 1 ∨ f = 2 then (if placeOk s p then (if 0 ≤ h ∧ h ≤ 1000000 then (if h < x.hl ∨ x.hl + 200 < h then 21 else 0) else 1) else 20) else 1)))
theorem errAskR_eq (s : DSea) (l : List DWind) (x : DLoss) (f : Int) (p : DPlace) (h : Int) : errAskR s l x f p h = errAsk s l x f (some p) h := by
  unfold errAskR errAsk errSail
  simp only [List.map_cons, List.map_nil, List.foldr_cons, List.foldr_nil, orE_assoc]
  congr 1; congr 1; congr 1
  unfold errPlace errFar errHour
  by_cases hf : f = 1 ∨ f = 2
  · simp only [hf, if_true]
    by_cases hp : placeOk s p = true
    · simp only [hp, if_true]
      by_cases hh : 0 ≤ h ∧ h ≤ 1000000
      · simp only [hh, if_true, and_self]
        by_cases h2 : x.hl ≤ h ∧ h ≤ x.hl + 200
        · rw [if_neg (by omega), if_pos h2]; rfl
        · rw [if_pos (by omega), if_neg h2]; rfl
      · simp only [hh, if_false]; rfl
    · simp only [hp]; rfl
  · simp only [hf, if_false]; rfl
end Go.Proofs.YtjekioabkmijbaaGreatDoor
/- The reference's hour, ranged, afloat, Place, CheckLoss. -/
set_option linter.unusedVariables false
set_option linter.unusedSimpArgs false
namespace Go.Proofs.YtjekioabkmijbaaGreatDoor
open Go.RowKit
theorem hourR_calls (h : Int) (w : World) : Calls Tryz.prog 122 #[iv h] w fun e w' => e = .returned (.bool (inB h 0 1000000)) ∧ w' = w := by
  go_enter Tryz.func122, Tryz.ntmps122
  go_wp2_with (go_at_call 106; refine (within106_calls _ _ _ _).mono ?_; rintro e w' ⟨rfl, rfl⟩)
  go_ret
  exact ⟨rfl, rfl⟩
theorem ranged_calls (lo hi a b : Int) (w : World) : Calls Tryz.prog 123 #[.agg #[iv lo, iv hi], iv a, iv b] w fun e w' => e = .returned (.bool (rangeOk lo hi a b)) ∧ Below w.heap.size w w' := by
  by_cases h1 : a ≤ lo
  · by_cases h2 : lo ≤ hi
    · have e : rangeOk lo hi a b = decide (hi ≤ b) := by simp [rangeOk, h1, h2]
      rw [e]; clear e
      go_enter Tryz.func123, Tryz.ntmps123
      go_wp2
      go_ret
      exact ⟨rfl, bl_alloc (Below.refl _ _) _⟩
    · have e : rangeOk lo hi a b = false := by simp [rangeOk]; omega
      rw [e]; clear e
      go_enter Tryz.func123, Tryz.ntmps123
      go_wp2
      go_ret
      exact ⟨rfl, bl_alloc (Below.refl _ _) _⟩
  · have e : rangeOk lo hi a b = false := by simp [rangeOk]; omega
    rw [e]; clear e
    go_enter Tryz.func123, Tryz.ntmps123
    go_wp2
    go_ret
    exact ⟨rfl, bl_alloc (Below.refl _ _) _⟩
theorem afloat_calls (f : Int) (w : World) : Calls Tryz.prog 129 #[.int .u8 f] w fun e w' => e = .returned (.bool (decide (f = 1 ∨ f = 2))) ∧ w' = w := by
  by_cases h1 : f = 1
  · subst h1
    go_enter Tryz.func129, Tryz.ntmps129
    go_wp2
    go_ret
    exact ⟨rfl, rfl⟩
  · have h1' : (f == 1) = false := by simp [h1]
    have e : decide (f = 1 ∨ f = 2) = (f == 2) := by
      rw [Bool.eq_iff_iff, decide_eq_true_eq, beq_iff_eq]; simp [h1]
    rw [e]; clear e h1
    go_enter Tryz.func129, Tryz.ntmps129
    go_wp2
    go_ret
    exact ⟨rfl, rfl⟩
theorem placeB (s : DSea) (p : DPlace) : placeOk s p = (inB p.c 0 (s.cells - 1) && inB p.b 0 s.bands) := rfl
set_option maxHeartbeats 1000000 in
theorem placeR_calls (s : DSea) (p : DPlace) (vh vt : Value) (w : World) (hs : 1 ≤ s.cells ∧ s.cells ≤ 40) (h1 : Sl intCs 1 w vh s.hts) (h2 : Sl DTide.cs 2 w vt s.tds) : Calls Tryz.prog 130 #[.agg #[iv s.cells, iv s.bands, vh, vt], placeV p] w fun e w' => e = .returned (.bool (placeOk s p)) ∧ Below w.heap.size w w' := by
  obtain ⟨hs1, hs2⟩ := hs
  obtain ⟨A1, c1, rfl, hc1, hl1⟩ := h1.open_
  obtain ⟨A2, c2, rfl, hc2, hl2⟩ := h2.open_
  clear h1 h2
  rw [placeB]
  have hb : Hid (Below w.heap.size w ((w.alloc (.cells #[iv s.cells, iv s.bands, .slice A1 s.hts.length c1, .slice A2 s.tds.length c2] 25)).alloc (.cells #[iv p.c, iv p.b] 48))) := bl_alloc (bl_alloc (Below.refl _ _) _) _
  cases q1 : inB p.c 0 (s.cells - 1) with
  | false =>
    go_enter Tryz.func130, Tryz.ntmps130
    go_wp2_with (go_at_call 106; refine (within106_calls _ _ _ _).mono ?_; rintro e w' ⟨rfl, rfl⟩; simp only [q1])
    go_ret
    exact ⟨rfl, hb.out⟩
  | true =>
    go_enter Tryz.func130, Tryz.ntmps130
    go_wp2_with (go_at_call 106; refine (within106_calls _ _ _ _).mono ?_; rintro e w' ⟨rfl, rfl⟩; simp only [q1])
    go_ret
    exact ⟨rfl, hb.out⟩
theorem lossB (s : DSea) (x : DLoss) : lossOk s x = (((inB x.id 1 20 && rangeOk x.cl x.ch 0 (s.cells - 1)) && rangeOk x.bl x.bh 1 s.bands) && rangeOk x.hl x.hh 0 1000000) := by
  unfold lossOk inB
  rw [show decide (1 ≤ x.id ∧ x.id ≤ 20) = (decide (1 ≤ x.id) && decide (x.id ≤ 20)) by simp]
/-- The boxes of a sea and of a loss. -/
def LossBox (s : DSea) (x : DLoss) (b0 b1 : Nat) (A1 : Option Addr) (k1 : Nat) (A2 : Option Addr) (k2 : Nat) (V : World) : Prop :=
  V.heap[b0]? = some (.cells #[iv s.cells, iv s.bands, .slice A1 s.hts.length k1, .slice A2 s.tds.length k2] 25 (0, 0)) ∧ V.heap[b1]? = some (.cells (lossA x) 30 (0, 0))
theorem LossBox.below {s : DSea} {x : DLoss} {b0 b1 : Nat} {A1 : Option Addr} {k1 : Nat} {A2 : Option Addr} {k2 : Nat} {V V' : World} (h : LossBox s x b0 b1 A1 k1 A2 k2 V) (hb : Below V.heap.size V V') : LossBox s x b0 b1 A1 k1 A2 k2 V' := ⟨blk_below h.1 hb, blk_below h.2 hb⟩
theorem LossBox.cells {s : DSea} {x : DLoss} {b0 b1 : Nat} {A1 : Option Addr} {k1 : Nat} {A2 : Option Addr} {k2 : Nat} {V : World} (h : LossBox s x b0 b1 A1 k1 A2 k2 V) : (V.cell? ⟨b0, 0, none⟩ = some (iv s.cells) ∧ V.cell? ⟨b0, 1, none⟩ = some (iv s.bands) ∧ V.cell? ⟨b0, 2, none⟩ = some (.slice A1 s.hts.length k1) ∧ V.cell? ⟨b0, 3, none⟩ = some (.slice A2 s.tds.length k2)) ∧
    (V.cell? ⟨b1, 0, none⟩ = some (iv x.id) ∧ V.cell? ⟨b1, 1, none⟩ = some (iv x.cl) ∧ V.cell? ⟨b1, 2, none⟩ = some (iv x.ch) ∧ V.cell? ⟨b1, 3, none⟩ = some (iv x.bl) ∧ V.cell? ⟨b1, 4, none⟩ = some (iv x.bh) ∧ V.cell? ⟨b1, 5, none⟩ = some (iv x.hl) ∧ V.cell? ⟨b1, 6, none⟩ = some (iv x.hh)) ∧ b0 < V.heap.size ∧ b1 < V.heap.size :=
  ⟨⟨blk_cell h.1 0, blk_cell h.1 1, blk_cell h.1 2, blk_cell h.1 3⟩, loss_cells h.2, blk_lt h.1, blk_lt h.2⟩
set_option maxHeartbeats 4000000 in
set_option maxRecDepth 20000 in
theorem checkLossR_calls (s : DSea) (x : DLoss) (vh vt : Value) (w : World) (h1 : Sl intCs 1 w vh s.hts) (h2 : Sl DTide.cs 2 w vt s.tds) :
    Calls Tryz.prog 67 #[.agg #[iv s.cells, iv s.bands, vh, vt], lossV x] w fun e w' => e = .returned (iv (errLoss s x)) ∧ Below w.heap.size w w' := by
  obtain ⟨A1, c1, rfl, hc1, hl1⟩ := h1.open_
  obtain ⟨A2, c2, rfl, hc2, hl2⟩ := h2.open_
  have H1 := Lib.hid h1
  have H2 := Lib.hid h2
  clear h1 h2
  go_enter Tryz.func67, Tryz.ntmps67
  go_wp2_with fail
  refine calls_abs (fun W hW => ?_)
  have hB : Below w.heap.size w W := by rw [hW]; exact bl_alloc (bl_alloc (Below.refl _ _) _) _
  have hL : Hid (LossBox s x w.heap.size (w.heap.size + 1) A1 c1 A2 c2 W) := ⟨by rw [hW]; exact blk_alloc (blk_new _ _) _, by rw [hW]; exact blk_at _ (by simp)⟩
  have HB := Lib.hid hB
  have HS1 := Lib.hid (H1.out.below hB)
  have HS2 := Lib.hid (H2.out.below hB)
  clear hW hB
  refine (checkSeaR_calls s _ _ W HS1.out HS2.out).mono ?_
  rintro e w1 ⟨rfl, hb1⟩
  have HB1 := Lib.hid (bl_step HB.out hb1)
  have HL1 := Lib.hid (hL.out.below hb1)
  clear hb1 hL
  have hEL : errLoss s x = if seaOk s && lossOk s x then 0 else 1 := rfl
  cases hs : seaOk s with
  | false =>
    have he : errSea s = 1 := by unfold errSea; rw [hs]; rfl
    have HE : Hid (errLoss s x = 1) := by unfold Hid; rw [hEL, hs]; rfl
    rw [he]
    clear hEL
    go_wp2_with fail
    exact bodyPost_ret (v := iv (errLoss s x)) (by rw [HE.out]; simp [results, Tryz.results67, go_sem]) rfl ⟨rfl, HB1.out⟩
  | true =>
    have he : errSea s = 0 := by unfold errSea; rw [hs]; rfl
    have HE : Hid (errLoss s x = if lossOk s x then 0 else 1) := by unfold Hid; rw [hEL, hs]; rfl
    rw [lossB] at HE
    have hsb := seaOk_bounds hs
    have hs1 : 1 ≤ s.cells ∧ s.cells ≤ 40 := ⟨hsb.1, hsb.2.1⟩
    obtain ⟨hs1, hs2⟩ := hs1
    rw [he]
    clear hEL hsb he
    obtain ⟨⟨a0, a1, a2, a3⟩, ⟨d0, d1, d2, d3, d4, d5, d6⟩, l0, l1⟩ := HL1.out.cells
    cases q1 : inB x.id 1 20 with
    | false =>
      rw [q1] at HE
      go_wp2_with (go_at_call 106; refine (within106_calls _ _ _ _).mono ?_; rintro e w' ⟨rfl, rfl⟩; simp only [q1])
      exact bodyPost_ret (v := iv (errLoss s x)) (by rw [HE.out]; simp [results, Tryz.results67, go_sem]) rfl ⟨rfl, HB1.out⟩
    | true =>
      rw [q1] at HE
      go_wp2_with (go_at_call 106; refine (within106_calls _ _ _ _).mono ?_; rintro e w' ⟨rfl, rfl⟩; simp only [q1])
      refine (ranged_calls _ _ _ _ _).mono ?_
      rintro e w2 ⟨rfl, hb2⟩
      have HB2 := Lib.hid (bl_step HB1.out hb2)
      have HL2 := Lib.hid (HL1.out.below hb2)
      clear hb2 a0 a1 a2 a3 d0 d1 d2 d3 d4 d5 d6 l0 l1
      obtain ⟨⟨a0, a1, a2, a3⟩, ⟨d0, d1, d2, d3, d4, d5, d6⟩, l0, l1⟩ := HL2.out.cells
      cases q2 : rangeOk x.cl x.ch 0 (s.cells - 1) with
      | false =>
        rw [q2] at HE
        go_wp2_with fail
        exact bodyPost_ret (v := iv (errLoss s x)) (by rw [HE.out]; simp [results, Tryz.results67, go_sem]) rfl ⟨rfl, HB2.out⟩
      | true =>
        rw [q2] at HE
        go_wp2_with fail
        refine (ranged_calls _ _ _ _ _).mono ?_
        rintro e w3 ⟨rfl, hb3⟩
        have HB3 := Lib.hid (bl_step HB2.out hb3)
        have HL3 := Lib.hid (HL2.out.below hb3)
        clear hb3 a0 a1 a2 a3 d0 d1 d2 d3 d4 d5 d6 l0 l1
        obtain ⟨⟨a0, a1, a2, a3⟩, ⟨d0, d1, d2, d3, d4, d5, d6⟩, l0, l1⟩ := HL3.out.cells
        cases q3 : rangeOk x.bl x.bh 1 s.bands with
        | false =>
          rw [q3] at HE
          go_wp2_with fail
          exact bodyPost_ret (v := iv (errLoss s x)) (by rw [HE.out]; simp [results, Tryz.results67, go_sem]) rfl ⟨rfl, HB3.out⟩
        | true =>
          rw [q3] at HE
          go_wp2_with fail
          refine (ranged_calls _ _ _ _ _).mono ?_
          rintro e w4 ⟨rfl, hb4⟩
          have HB4 := Lib.hid (bl_step HB3.out hb4)
          clear hb4 a0 a1 a2 a3 d0 d1 d2 d3 d4 d5 d6 l0 l1
          cases q4 : rangeOk x.hl x.hh 0 1000000 with
          | false =>
            rw [q4] at HE
            go_wp2_with fail
            exact bodyPost_ret (v := iv (errLoss s x)) (by rw [HE.out]; simp [results, Tryz.results67, go_sem]) rfl ⟨rfl, HB4.out⟩
          | true =>
            rw [q4] at HE
            go_wp2_with fail
            exact bodyPost_ret (v := iv (errLoss s x)) (by rw [HE.out]; simp [results, Tryz.results67, go_sem]) rfl ⟨rfl, HB4.out⟩
end Go.Proofs.YtjekioabkmijbaaGreatDoor
