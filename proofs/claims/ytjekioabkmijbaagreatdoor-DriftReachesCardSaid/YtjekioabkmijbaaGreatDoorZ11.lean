
import Derived.Test.YtjekioabkmijbaaGreatDoorZ06
set_option linter.unusedVariables false
set_option linter.unusedSimpArgs false
namespace Go.Proofs.YtjekioabkmijbaaGreatDoor
open Go.RowKit
theorem atV_eq (o : Option DWind) : atV o = .tuple #[windV (o.getD zeroW), .bool o.isSome] := by cases o <;> rfl
def gustO (o : Option DWind) : Int × Int × Int × Int := match o with
  | some x => (x.al, x.ah, x.sl, x.sh)
  | none => (-2, 2, -2, 2)
theorem gust_eq (ws : List DWind) (h : Int) : gust ws h = gustO (windAt ws h) := by unfold gust gustO; cases windAt ws h <;> rfl
theorem MRoom.under {w W W' : World} {A : Array Value} {p : DPlace} {td : DTide} (h : MRoom w A p td W) (hb : Below (w.heap.size + 1 + 1 + 1 + 1 + 1) W W') : MRoom w A p td W' :=
  ⟨blk_under h.g0 hb (by omega), blk_under h.g1 hb (by omega), blk_under h.g2 hb (by omega), blk_under h.g4 hb (by omega), h.hB.trans (hb.mono (by omega))⟩
theorem gustO_bounds (ws : List DWind) (h : Int) (hw : windsOk ws) : (-2 ≤ (gustO (windAt ws h)).1 ∧ (gustO (windAt ws h)).2.1 ≤ 2) ∧ (-2 ≤ (gustO (windAt ws h)).2.2.1 ∧ (gustO (windAt ws h)).2.2.2 ≤ 2) := by
  unfold gustO
  cases hx : windAt ws h with
  | none => simp
  | some x =>
    have hm : x ∈ ws := by
      have := List.mem_of_find?_eq_some (show ws.reverse.find? (blows h) = some x from hx)
      simpa using this
    obtain ⟨a, b⟩ := hw.2 x hm
    simp only [rangeOk, decide_eq_true_eq] at a b
    exact ⟨⟨a.2.1, a.2.2⟩, b.2.1, b.2.2⟩
theorem tide_bounds {s : DSea} (h : seaOk s = true) (t : Int) : -3 ≤ (tideAt s t).al ∧ (tideAt s t).al ≤ 3 := by
  unfold tideAt
  rw [List.getD_eq_getElem?_getD]
  cases hx : s.tds[(t % (s.tds.length : Int)).toNat]? with
  | none => simp
  | some x =>
    have hm := List.mem_of_getElem? hx
    unfold seaOk at h; simp only [Bool.and_eq_true, List.all_eq_true] at h
    have := h.2 x hm
    simp only [tideOk, Bool.and_eq_true, decide_eq_true_eq] at this
    exact ⟨this.1.1, this.1.2⟩
theorem wrap_small (x : Int) (h1 : -1000 ≤ x) (h2 : x ≤ 1000) : IntKind.i64.wrap x = x := IntWalk.i64_in x ⟨by omega, by omega⟩
theorem calls_place {P : Program} {f : FuncId} {a v v' : Value} {w : World} {R : Ending → World → Prop} (e : v = v') (h : Calls P f #[a, v] w R) : Calls P f #[a, v'] w R := e ▸ h
theorem place_eq {p : DPlace} {a b : Int} (h1 : p.c = a) (h2 : p.b = b) : placeV p = .agg #[.int .i64 a, .int .i64 b] := by subst h1; subst h2; rfl
def rowM (s : DSea) (f : Int) (p : DPlace) (t c d a : Int) (m : Nat) : Nat := (ints c d).foldl (fun m r => m ||| bit (landing s f p t a r)) m
set_option maxHeartbeats 2000000 in
set_option maxRecDepth 100000 in
theorem moves_afloat (s : DSea) (ws : List DWind) (f : Int) (vh vt vw : Value) (p : DPlace) (h : Int) (w : World) (hk : Sky s ws f vh vt vw w) (hp : placeOk s p = true) (hh : 0 ≤ h ∧ h ≤ 2000000) (hb0 : ¬ p.b = 0) :
    Calls Tryz.prog 84 #[.agg #[iv s.cells, iv s.bands, vh, vt, vw, iv f], placeV p, iv h] w fun e w' => e = .returned (setV (movesM s ws f p h)) ∧ Below w.heap.size w w' := by
  obtain ⟨s1, s2, s3, s4, s5, s6, s7⟩ := seaOk_bounds hk.sea
  obtain ⟨p1, p2, p3, p4⟩ := placeOk_bounds hp
  obtain ⟨h1, h2⟩ := hh
  obtain ⟨A1, c1, rfl, hc1, _⟩ := hk.hts.open_
  obtain ⟨A2, c2, rfl, hc2, _⟩ := hk.tds.open_
  obtain ⟨A3, c3, rfl, hc3, _⟩ := hk.ws.open_
  obtain ⟨nn, hn⟩ : ∃ nn, nn = s.tds.length := ⟨_, rfl⟩
  obtain ⟨k, hkk⟩ : ∃ k, k = (h % (nn : Int)).toNat := ⟨_, rfl⟩
  have m0 : 0 ≤ h % (nn : Int) := Int.emod_nonneg _ (by omega)
  have m1 : h % (nn : Int) < nn := Int.emod_lt_of_pos _ (by omega)
  have k1 : h % (nn : Int) = (k : Int) := by omega
  have k2 : h.tmod (nn : Int) = (k : Int) := by rw [IntWalk.rem_in _ _ h1]; exact k1
  have k3 : k < nn := by omega
  have k4 : (k : Int) < (nn : Int) := by omega
  have HT : Hid (s.tds[k]? = some (tideAt s h)) := by
    unfold Hid tideAt; rw [← hn, ← hkk, List.getElem?_eq_getElem (by omega), List.getD_eq_getElem?_getD, List.getElem?_eq_getElem (by omega)]; rfl
  obtain ⟨b2, o2, rfl, t0, t1⟩ := hk.tds.tide k _ HT.out
  have k5 : ¬ nn = 0 := by omega
  have j1 : p.c < (s.hts.length : Int) := by omega
  obtain ⟨H, hH⟩ : ∃ H, H = s.hts.getD p.c.toNat 0 := ⟨_, rfl⟩
  obtain ⟨b1, o1, rfl, u0⟩ := hk.hts.int p.c.toNat H (by rw [hH, List.getD_eq_getElem?_getD, List.getElem?_eq_getElem (by omega)]; rfl)
  have HH : Hid (H = s.hts.getD p.c.toNat 0) := hH
  clear hH
  obtain ⟨td, htd⟩ : ∃ td, td = tideAt s h := ⟨_, rfl⟩
  rw [← htd] at t0 t1
  have HTD : Hid (td = tideAt s h) := htd
  clear htd
  have l1 := World.block_lt_of_cell? w _ u0
  have l2 := World.block_lt_of_cell? w _ t0
  have HK := Lib.hid hk
  have HN := Lib.hid hn
  rw [← hn]
  clear hk hn hkk m0 m1
  have e0 : (p.b == 0) = false := by simp [hb0]
  have HB0 := Lib.hid hb0
  clear hb0
  go_enter Tryz.func84, Tryz.ntmps84
  go_wp2
  refine wp_abs (fun W hW => ?_)
  have g0 : W.heap[w.heap.size]? = some (.cells #[iv s.cells, iv s.bands, .slice (some ⟨b1, o1, none⟩) s.hts.length c1, .slice (some ⟨b2, o2, none⟩) nn c2, .slice A3 ws.length c3, iv f] 110 (0, 0)) := by rw [hW]; exact blk_alloc (blk_alloc (blk_alloc (blk_new _ _) _) _) _
  have g1 : W.heap[w.heap.size + 1]? = some (.cells #[iv p.c, iv p.b] 48 (0, 0)) := by rw [hW]; exact blk_alloc (blk_alloc (blk_at _ (by simp)) _) _
  have g2 : W.heap[w.heap.size + 1 + 1]? = some (.cells #[.int .u64 0, .int .u64 0, .int .u64 0, .int .u64 0, .int .u64 0] 115 (0, 0)) := by rw [hW]; exact blk_alloc (blk_at _ (by simp)) _
  have g3 : W.heap[w.heap.size + 1 + 1 + 1]? = some (.cells #[.int .u64 0, .int .u64 0, .int .u64 0, .int .u64 0, .int .u64 0] 115 (0, 0)) := by rw [hW]; exact blk_at _ (by simp)
  have hsz : W.heap.size = w.heap.size + 1 + 1 + 1 + 1 := by rw [hW]; simp
  have hB : Below w.heap.size w W := by rw [hW]; exact bl_alloc (bl_alloc (bl_alloc (bl_alloc (Below.refl _ _) _) _) _) _
  clear hW
  replace t0 := (hB.cell l2).trans t0
  replace t1 := (hB.cell l2).trans t1
  have a0 := blk_cell g0 0
  have a1 := blk_cell g0 1
  have a2 := blk_cell g0 2
  have a3 := blk_cell g0 3
  have a4 := blk_cell g0 4
  have a5 := blk_cell g0 5
  have a6 := blk_cell g1 0
  have a7 := blk_cell g1 1
  simp only [List.getElem?_toArray, List.getElem?_cons_zero, List.getElem?_cons_succ] at a0 a1 a2 a3 a4 a5 a6 a7
  have G0 := Lib.hid g0
  have G1 := Lib.hid g1
  have G2 := Lib.hid g2
  have G3 := Lib.hid g3
  have HB := Lib.hid hB
  have HZ := Lib.hid hsz
  have z0 : w.heap.size < W.heap.size := by omega
  have z1 : w.heap.size + 1 < W.heap.size := by omega
  have z2 : w.heap.size + 1 + 1 < W.heap.size := by omega
  have z3 : w.heap.size + 1 + 1 + 1 < W.heap.size := by omega
  have z4 : b2 < W.heap.size := by omega
  clear g0 g1 g2 g3 hB hsz
  go_region
  have y0 : w.heap.size < W.heap.size + 1 := by omega
  have y1 : w.heap.size < W.heap.size + 1 + 1 := by omega
  go_wp2_with fail
  refine calls_abs (fun W2 hW2 => ?_)
  have hM : MRoom w #[iv s.cells, iv s.bands, .slice (some ⟨b1, o1, none⟩) s.hts.length c1, .slice (some ⟨b2, o2, none⟩) nn c2, .slice A3 ws.length c3, iv f] p td W2 := by
    rw [hW2]; exact ⟨blk_alloc (blk_alloc (blk_alloc G0.out _) _) _, blk_alloc (blk_alloc (blk_alloc G1.out _) _) _, blk_alloc (blk_alloc (blk_alloc G2.out _) _) _, blk_alloc (blk_alloc (blk_at _ HZ.out.symm) _) _, (bl_alloc (bl_alloc (bl_alloc HB.out _) _) _).drew⟩
  have q3 : W2.heap[w.heap.size + 1 + 1 + 1]? = some (.cells (setA 0) 115 (0, 0)) := by rw [hW2, setA_zero]; exact blk_alloc (blk_alloc (blk_alloc G3.out _) _) _
  have q5 : W2.heap[W.heap.size + 1]? = some (.cells #[iv (-2), iv 2] 28 (0, 0)) := by rw [hW2]; exact blk_alloc (blk_at _ (by simp)) _
  have q6 : W2.heap[W.heap.size + 1 + 1]? = some (.cells #[iv (-2), iv 2] 28 (0, 0)) := by rw [hW2]; exact blk_at _ (by simp)
  clear hW2
  refine (at_calls ws _ h W2 HK.out.winds.1 (HK.out.ws.below hM.hB)).mono ?_
  rintro e W3 ⟨rfl, hb3⟩
  rw [atV_eq]
  have hM3 := Lib.hid (hM.below hb3)
  have Q3 := Lib.hid (blk_below q3 hb3)
  have r5 := blk_below q5 hb3
  have r6 := blk_below q6 hb3
  have hz3 := hb3.size
  have hlt6 := blk_lt r6
  clear hM q3 q5 q6 hb3 a0 a1 a2 a3 a4 a5 a6 a7
  obtain ⟨o, ho⟩ : ∃ o, o = windAt ws h := ⟨_, rfl⟩
  rw [← ho]
  have HO : Hid (o = windAt ws h) := ho
  clear ho
  go_upto_if 57 with fail
  go_cut [] (fun wx => MRoom w #[iv s.cells, iv s.bands, .slice (some ⟨b1, o1, none⟩) s.hts.length c1, .slice (some ⟨b2, o2, none⟩) nn c2, .slice A3 ws.length c3, iv f] p td wx ∧ wx.heap[w.heap.size + 1 + 1 + 1]? = some (.cells (setA 0) 115 (0, 0)) ∧ wx.heap[W.heap.size + 1]? = some (.cells #[iv (gustO o).1, iv (gustO o).2.1] 28 (0, 0)) ∧ wx.heap[W.heap.size + 1 + 1]? = some (.cells #[iv (gustO o).2.2.1, iv (gustO o).2.2.2] 28 (0, 0)))
  case first =>
    cases o with
    | none =>
      go_wp2_with fail
      go_meet
      exact ⟨hM3.out.below (bl_alloc (Below.refl _ _) _), blk_alloc Q3.out _, blk_alloc r5 _, blk_alloc r6 _⟩
    | some x =>
      go_wp2_with fail
      refine wp_abs (fun W5 hW5 => ?_)
      have HM3 := hM3
      have hM5 : MRoom w #[iv s.cells, iv s.bands, .slice (some ⟨b1, o1, none⟩) s.hts.length c1, .slice (some ⟨b2, o2, none⟩) nn c2, .slice A3 ws.length c3, iv f] p td W5 := by
        rw [hW5]; exact hM3.out.below (bl_alloc (Below.refl _ _) _)
      have q5 : W5.heap[w.heap.size + 1 + 1 + 1]? = some (.cells (setA 0) 115 (0, 0)) := by rw [hW5]; exact blk_alloc Q3.out _
      have qa : W5.heap[W.heap.size + 1]? = some (.cells #[iv (-2), iv 2] 28 (0, 0)) := by rw [hW5]; exact blk_alloc r5 _
      have qb : W5.heap[W.heap.size + 1 + 1]? = some (.cells #[iv (-2), iv 2] 28 (0, 0)) := by rw [hW5]; exact blk_alloc r6 _
      have qc : W5.heap[W3.heap.size]? = some (.cells (windA x) 53 (0, 0)) := by rw [hW5]; exact blk_new _ _
      have hz5 : W5.heap.size = W3.heap.size + 1 := by rw [hW5]; simp
      clear hW5
      have v0 := blk_cell qa 0
      have v1 := blk_cell qa 1
      have v2 := blk_cell qb 0
      have v3 := blk_cell qb 1
      have v4 := blk_cell qc 4
      have v5 := blk_cell qc 5
      have v6 := blk_cell qc 6
      have v7 := blk_cell qc 7
      simp only [windA, List.getElem?_toArray, List.getElem?_cons_zero, List.getElem?_cons_succ] at v0 v1 v2 v3 v4 v5 v6 v7
      have f0 := blk_frozen qa 0
      have f1 := blk_frozen qa 1
      have f2 := blk_frozen qb 0
      have f3 := blk_frozen qb 1
      have HM5 := Lib.hid hM5
      have Q5 := Lib.hid q5
      have QA := Lib.hid qa
      have QB := Lib.hid qb
      clear hM5 q5 qa qb qc
      have z5 : W.heap.size + 1 < W5.heap.size := by omega
      have z6 : W.heap.size + 1 + 1 < W5.heap.size := by omega
      have z7 : W3.heap.size < W5.heap.size := by omega
      go_region
      go_wp2_with fail
      go_meet
      refine ⟨HM5.out.under ?_, ?_, ?_, ?_⟩
      · have hs : w.heap.size + 1 + 1 + 1 + 1 + 1 ≤ W5.heap.size := by have := HM5.out.lt; omega
        have hl := HM3.out.lt
        have hz := HZ.out
        exact (((((Below.refl _ _).setCell (by show _ ≤ W.heap.size + 1; omega) _).setCell (by show _ ≤ W.heap.size + 1; omega) _).setCell (by show _ ≤ W.heap.size + 1 + 1; omega) _).setCell (by show _ ≤ W.heap.size + 1 + 1; omega) _).drew
      · have hz := HZ.out
        exact blk_far (blk_far (blk_far (blk_far Q5.out (by simp; omega) _) (by simp; omega) _) (by simp; omega) _) (by simp; omega) _
      · exact blk_far (blk_far (blk_set2 QA.out _ _) (by simp) _) (by simp) _
      · exact blk_set2 (blk_far (blk_far QB.out (by simp) _) (by simp) _) _ _
  case rest =>
    have HG : Hid (gust ws h = gustO o) := by unfold Hid; rw [gust_eq, HO.out]
    obtain ⟨⟨n1, n2⟩, n3, n4⟩ : (-2 ≤ (gustO o).1 ∧ (gustO o).2.1 ≤ 2) ∧ (-2 ≤ (gustO o).2.2.1 ∧ (gustO o).2.2.2 ≤ 2) := by rw [HO.out]; exact gustO_bounds _ _ HK.out.winds
    obtain ⟨GA, GB, GC, GD, hq⟩ : ∃ a b c d, gustO o = (a, b, c, d) := ⟨_, _, _, _, rfl⟩
    rw [hq] at n1 n2 n3 n4 hcut HG
    clear hq
    dsimp only at n1 n2 n3 n4
    obtain ⟨hM4, q3, qa, qb⟩ := hcut
    have HM4 := Lib.hid hM4
    have v0 := blk_cell qa 0
    have v1 := blk_cell qa 1
    have v2 := blk_cell qb 0
    have v3 := blk_cell qb 1
    simp only [List.getElem?_toArray, List.getElem?_cons_zero, List.getElem?_cons_succ] at v0 v1 v2 v3
    go_wp2_with fail
    have ff := HK.out.f
    have ta : -3 ≤ td.al ∧ td.al ≤ 3 := by rw [HTD.out]; exact tide_bounds HK.out.sea h
    obtain ⟨ta1, ta2⟩ := ta
    go_loopg [13] (GB + 1 - GA).toNat (fun n i wr => ∃ k : Nat, n = (GB + 1 - GA).toNat - k ∧ Hid (k ≤ (GB + 1 - GA).toNat) ∧ i = .int .i64 (GA + k) ∧ Hid (MRoom w #[iv s.cells, iv s.bands, .slice (some ⟨b1, o1, none⟩) s.hts.length c1, .slice (some ⟨b2, o2, none⟩) nn c2, .slice A3 ws.length c3, iv f] p td wr) ∧ Hid (wr.heap[w.heap.size + 1 + 1 + 1]? = some (.cells (setA ((pfx GA k).foldl (fun m a => rowM s f p td.al GC GD a m) 0)) 115 (0, 0))) ∧ wr.heap[W.heap.size + 1]? = some (.cells #[iv GA, iv GB] 28 (0, 0)) ∧ wr.heap[W.heap.size + 1 + 1]? = some (.cells #[iv GC, iv GD] 28 (0, 0)))
    case atStart => exact ⟨0, rfl, Nat.zero_le _, by simp, HM4, q3, qa, qb⟩
    case round =>
      clear v0 v1 v2 v3 q3 qa qb hM4 HM4
      obtain ⟨k, hn, hk, rfl, HM5, q3, qa, qb⟩ := hrel
      have hk := hk.out
      have hM5 := HM5.out
      have a0 := blk_cell hM5.g0 0
      have a1 := blk_cell hM5.g0 1
      have a5 := blk_cell hM5.g0 5
      have a6 := blk_cell hM5.g1 0
      have a7 := blk_cell hM5.g1 1
      have a8 := blk_cell hM5.g4 0
      rw [← HZ.out] at a8
      simp only [List.getElem?_toArray, List.getElem?_cons_zero, List.getElem?_cons_succ] at a0 a1 a5 a6 a7 a8
      have v0 := blk_cell qa 0
      have v1 := blk_cell qa 1
      have v2 := blk_cell qb 0
      have v3 := blk_cell qb 1
      simp only [List.getElem?_toArray, List.getElem?_cons_zero, List.getElem?_cons_succ] at v0 v1 v2 v3
      by_cases hlt : GA + k ≤ GB
      · go_wp2_with fail
        obtain ⟨wo, rfl⟩ : ∃ wo : World, wo = wr := ⟨_, rfl⟩
        go_loopg [14] (GD + 1 - GC).toNat (fun n i wr => ∃ j : Nat, n = (GD + 1 - GC).toNat - j ∧ Hid (j ≤ (GD + 1 - GC).toNat) ∧ i = .int .i64 (GC + j) ∧ Hid (MRoom w #[iv s.cells, iv s.bands, .slice (some ⟨b1, o1, none⟩) s.hts.length c1, .slice (some ⟨b2, o2, none⟩) nn c2, .slice A3 ws.length c3, iv f] p td wr) ∧ Hid (wr.heap[w.heap.size + 1 + 1 + 1]? = some (.cells (setA ((pfx GC j).foldl (fun m r => m ||| bit (landing s f p td.al (GA + k) r)) ((pfx GA k).foldl (fun m a => rowM s f p td.al GC GD a m) 0))) 115 (0, 0))) ∧ wr.heap[W.heap.size + 1]? = some (.cells #[iv GA, iv GB] 28 (0, 0)) ∧ wr.heap[W.heap.size + 1 + 1]? = some (.cells #[iv GC, iv GD] 28 (0, 0)))
        case atStart => exact ⟨0, rfl, Nat.zero_le _, by simp, HM5, q3, qa, qb⟩
        case round =>
          clear v0 v1 v2 v3 q3 qa qb hM5 HM5 a0 a1 a5 a6 a7 a8
          obtain ⟨j, hn2, hj, rfl, HM6, q3, qa, qb⟩ := hrel
          have hj := hj.out
          have hM6 := HM6.out
          have a0 := blk_cell hM6.g0 0
          have a1 := blk_cell hM6.g0 1
          have a5 := blk_cell hM6.g0 5
          have a6 := blk_cell hM6.g1 0
          have a7 := blk_cell hM6.g1 1
          have a8 := blk_cell hM6.g4 0
          rw [← HZ.out] at a8
          have v0 := blk_cell qa 0
          have v1 := blk_cell qa 1
          have v2 := blk_cell qb 0
          have v3 := blk_cell qb 1
          simp only [List.getElem?_toArray, List.getElem?_cons_zero, List.getElem?_cons_succ] at a0 a1 a5 a6 a7 a8 v0 v1 v2 v3
          by_cases hlt2 : GC + j ≤ GD
          · obtain ⟨x1, hx1⟩ : ∃ x1, x1 = (GA + (k : Int)) * f := ⟨_, rfl⟩
            obtain ⟨x2, hx2⟩ : ∃ x2, x2 = (GC + (j : Int)) * f := ⟨_, rfl⟩
            have b1 : -4 ≤ x1 ∧ x1 ≤ 4 := by rcases ff with rfl | rfl <;> constructor <;> omega
            have b2 : -4 ≤ x2 ∧ x2 ≤ 4 := by rcases ff with rfl | rfl <;> constructor <;> omega
            obtain ⟨b11, b12⟩ := b1
            obtain ⟨b21, b22⟩ := b2
            have w1 : IntKind.i64.wrap ((GA + (k : Int)) * f) = x1 := by rw [← hx1]; exact wrap_small _ (by omega) (by omega)
            have w2 : IntKind.i64.wrap ((GC + (j : Int)) * f) = x2 := by rw [← hx2]; exact wrap_small _ (by omega) (by omega)
            have HX1 := Lib.hid hx1
            have HX2 := Lib.hid hx2
            clear hx1 hx2
            have hpl : okP (landing s f p td.al (GA + k) (GC + j)) := by
              refine ⟨?_, ?_, ?_, ?_⟩
              · show 0 ≤ min (max (p.c + td.al + (GA + k) * f) 0) (s.cells - 1); omega
              · show min (max (p.c + td.al + (GA + k) * f) 0) (s.cells - 1) ≤ 39; omega
              · show 0 ≤ min (max (p.b - (GC + j) * f) 0) s.bands; omega
              · show min (max (p.b - (GC + j) * f) 0) s.bands ≤ 6; omega
            have HA := Lib.hid (add_calls (w.heap.size + 1 + 1 + 1) _ (landing s f p td.al (GA + k) (GC + j)) _ hpl q3.out)
            have HP := Lib.hid hpl
            clear hpl
            go_wp2_with fail
            all_goals
              refine (calls_place (place_eq (by show min (max (p.c + td.al + (GA + k) * f) 0) (s.cells - 1) = _; rw [← HX1.out] <;> omega) (by show min (max (p.b - (GC + j) * f) 0) s.bands = _; rw [← HX2.out] <;> omega)) HA.out).mono ?_
              rintro e w1 ⟨rfl, g2', hg⟩
              go_wp2
              go_roundg ((GD + 1 - GC).toNat - (j + 1))
              case measure => omega
              case rel => exact ⟨j + 1, rfl, by show j + 1 ≤ _; omega, by go_num, HM6.out.grown hg, by rw [fold_snoc]; exact g2', blk_grown qa hg (by have := HM6.out.lt; have := HZ.out; simp; omega), blk_grown qb hg (by have := HZ.out; simp; omega)⟩
          · go_wp2
            have ej : j = (GD + 1 - GC).toNat := by omega
            subst ej
            go_roundg ((GB + 1 - GA).toNat - (k + 1))
            case measure => omega
            case rel => exact ⟨k + 1, rfl, by show k + 1 ≤ _; omega, by go_num, HM6, by rw [fold_snoc]; exact q3, qa, qb⟩
      · have ek : k = (GB + 1 - GA).toNat := by omega
        subst ek
        have HE : Hid (movesM s ws f p h = (pfx GA (GB + 1 - GA).toNat).foldl (fun m a => rowM s f p td.al GC GD a m) 0) := by unfold Hid movesM; rw [if_neg HB0.out, ← HTD.out, HG.out]; rfl
        clear hn hk
        generalize (pfx GA (GB + 1 - GA).toNat).foldl (fun m a => rowM s f p td.al GC GD a m) 0 = M at q3 HE
        obtain ⟨d0, d1, d2, d3, d4⟩ := set_cells q3.out
        obtain ⟨e0, e1, e2, e3, e4⟩ := zero_cells hM5.g2
        obtain ⟨f0, f1, f2, f3, f4⟩ := five_frozen hM5.g2
        have hBM := Lib.hid hM5.hB
        clear hM5 HM5 q3
        go_wp2
        refine bodyPost_ret (v := setV (movesM s ws f p h)) (by rw [HE.out]; simp [results, Tryz.results84, go_sem, e0, e1, e2, e3, e4]) rfl ⟨rfl, ?_⟩
        repeat (first | (with_reducible exact hBM.out) | refine Below.setCell ?_ (by first | (simp; done) | (simp; omega)) _)
theorem moves_calls (s : DSea) (ws : List DWind) (f : Int) (vh vt vw : Value) (p : DPlace) (h : Int) (w : World) (hk : Sky s ws f vh vt vw w) (hp : placeOk s p = true) (hh : 0 ≤ h ∧ h ≤ 2000000) :
    Calls Tryz.prog 84 #[.agg #[iv s.cells, iv s.bands, vh, vt, vw, iv f], placeV p, iv h] w fun e w' => e = .returned (setV (movesM s ws f p h)) ∧ Below w.heap.size w w' := by
  by_cases hb : p.b = 0
  · exact moves_beach s ws f vh vt vw p h w hk hp hh hb
  · exact moves_afloat s ws f vh vt vw p h w hk hp hh hb
end Go.Proofs.YtjekioabkmijbaaGreatDoor
