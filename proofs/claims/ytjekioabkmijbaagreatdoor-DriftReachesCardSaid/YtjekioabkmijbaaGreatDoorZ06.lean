/- Where a package of a loss can begin to drift. -/
import Derived.Test.YtjekioabkmijbaaGreatDoorZ03
import Derived.Test.YtjekioabkmijbaaGreatDoorZ05
set_option linter.unusedVariables false
set_option linter.unusedSimpArgs false
namespace Go.Proofs.YtjekioabkmijbaaGreatDoor
open Go.RowKit
abbrev lossA (x : DLoss) : Array Value := #[iv x.id, iv x.cl, iv x.ch, iv x.bl, iv x.bh, iv x.hl, iv x.hh]
def begunRow (x : DLoss) (c : Int) (m : Nat) : Nat := (ints x.bl x.bh).foldl (fun m b => m ||| bit ⟨c, b⟩) m
theorem begunM_eq (x : DLoss) (h : Int) (hh : x.hl ≤ h ∧ h ≤ x.hh) : begunM x h = (ints x.cl x.ch).foldl (fun m c => begunRow x c m) 0 := by
  unfold begunM; rw [if_pos hh]; rfl
theorem setA_zero : setA 0 = #[.int .u64 0, .int .u64 0, .int .u64 0, .int .u64 0, .int .u64 0] := by simp [setA, wd_zero]
set_option maxHeartbeats 1000000 in
theorem begun_calls (x : DLoss) (h : Int) (w : World) (hx : 0 ≤ x.cl ∧ x.ch ≤ 39 ∧ 0 ≤ x.bl ∧ x.bh ≤ 6) :
    Calls Tryz.prog 133 #[lossV x, iv h] w fun e w' => e = .returned (setV (begunM x h)) ∧ Below w.heap.size w w' := by
  obtain ⟨x1, x2, x3, x4⟩ := hx
  by_cases hh : x.hl ≤ h ∧ h ≤ x.hh
  · have i1 := inB_true hh
    have HM := Lib.hid (begunM_eq x h hh)
    clear hh
    go_enter Tryz.func133, Tryz.ntmps133
    go_wp2_with (go_at_call 101; refine (in_calls _ _ _ _).mono ?_; rintro e w' ⟨rfl, rfl⟩)
    go_loopg [6] (x.ch + 1 - x.cl).toNat (fun n i wr => ∃ k : Nat, n = (x.ch + 1 - x.cl).toNat - k ∧ Hid (k ≤ (x.ch + 1 - x.cl).toNat) ∧ i = .int .i64 (x.cl + k) ∧ wr.heap[w.heap.size]? = some (.cells (lossA x) 30 (0, 0)) ∧ wr.heap[w.heap.size + 1]? = some (.cells (setA 0) 115 (0, 0)) ∧ wr.heap[w.heap.size + 1 + 1]? = some (.cells (setA ((pfx x.cl k).foldl (fun m c => begunRow x c m) 0)) 115 (0, 0)) ∧ Below w.heap.size w wr)
    case atStart => exact ⟨0, rfl, Nat.zero_le _, by simp, blk_alloc (blk_alloc (blk_new _ _) _) _, by rw [setA_zero]; exact blk_alloc (blk_at _ (by simp)) _, by simp only [pfx, List.range_zero, List.map_nil, List.foldl_nil]; rw [setA_zero]; exact blk_at _ (by simp), bl_alloc (bl_alloc (bl_alloc (Below.refl _ _) _) _) _⟩
    case round =>
      obtain ⟨k, hn, hk, rfl, g0, g1, g2, hB⟩ := hrel
      have hk := hk.out
      have c1 := blk_cell g0 1
      have c2 := blk_cell g0 2
      have c3 := blk_cell g0 3
      have c4 := blk_cell g0 4
      simp only [List.getElem?_toArray, List.getElem?_cons_zero, List.getElem?_cons_succ] at c1 c2 c3 c4
      by_cases hlt : x.cl + k ≤ x.ch
      · go_wp2
        obtain ⟨wo, rfl⟩ : ∃ wo : World, wo = wr := ⟨_, rfl⟩
        go_loopg [7] (x.bh + 1 - x.bl).toNat (fun n i wr => ∃ j : Nat, n = (x.bh + 1 - x.bl).toNat - j ∧ Hid (j ≤ (x.bh + 1 - x.bl).toNat) ∧ i = .int .i64 (x.bl + j) ∧ wr.heap[w.heap.size]? = some (.cells (lossA x) 30 (0, 0)) ∧ wr.heap[w.heap.size + 1]? = some (.cells (setA 0) 115 (0, 0)) ∧ wr.heap[w.heap.size + 1 + 1]? = some (.cells (setA ((pfx x.bl j).foldl (fun m b => m ||| bit ⟨x.cl + k, b⟩) ((pfx x.cl k).foldl (fun m c => begunRow x c m) 0))) 115 (0, 0)) ∧ Below w.heap.size w wr)
        case atStart => exact ⟨0, rfl, Nat.zero_le _, by simp, g0, g1, g2, hB⟩
        case round =>
          clear c1 c2 c3 c4 g0 g1 g2 hB
          obtain ⟨j, hn2, hj, rfl, g0, g1, g2, hB⟩ := hrel
          have hj := hj.out
          have c1 := blk_cell g0 1
          have c2 := blk_cell g0 2
          have c3 := blk_cell g0 3
          have c4 := blk_cell g0 4
          simp only [List.getElem?_toArray, List.getElem?_cons_zero, List.getElem?_cons_succ] at c1 c2 c3 c4
          by_cases hlt2 : x.bl + j ≤ x.bh
          · have hp : okP ⟨x.cl + k, x.bl + j⟩ := ⟨by show 0 ≤ x.cl + k; omega, by show x.cl + k ≤ 39; omega, by show 0 ≤ x.bl + j; omega, by show x.bl + j ≤ 6; omega⟩
            have HA := Lib.hid (add_calls (w.heap.size + 1 + 1) _ ⟨x.cl + k, x.bl + j⟩ _ hp g2)
            go_wp2_with (go_at_call 126; refine HA.out.mono ?_; rintro e w1 ⟨rfl, g2', hg⟩)
            go_roundg ((x.bh + 1 - x.bl).toNat - (j + 1))
            case measure => omega
            case rel => exact ⟨j + 1, rfl, by show j + 1 ≤ _; omega, by go_num, blk_grown g0 hg (by simp; omega), blk_grown g1 hg (by simp), by rw [fold_snoc]; exact g2', hB.grown hg hB.size (fun b hb => by cases hb; omega)⟩
          · go_wp2
            have ej : j = (x.bh + 1 - x.bl).toNat := by omega
            subst ej
            go_roundg ((x.ch + 1 - x.cl).toNat - (k + 1))
            case measure => omega
            case rel => exact ⟨k + 1, rfl, by show k + 1 ≤ _; omega, by go_num, g0, g1, by rw [fold_snoc]; exact g2, hB⟩
      · have ek : k = (x.ch + 1 - x.cl).toNat := by omega
        subst ek
        have HM' : Hid (begunM x h = (pfx x.cl (x.ch + 1 - x.cl).toNat).foldl (fun m c => begunRow x c m) 0) := HM.out
        clear hn hk HM
        generalize (pfx x.cl (x.ch + 1 - x.cl).toNat).foldl (fun m c => begunRow x c m) 0 = M at g2 HM'
        have d0 := blk_cell g2 0
        have d1 := blk_cell g2 1
        have d2 := blk_cell g2 2
        have d3 := blk_cell g2 3
        have d4 := blk_cell g2 4
        have e0 := blk_cell g1 0
        have e1 := blk_cell g1 1
        have e2 := blk_cell g1 2
        have e3 := blk_cell g1 3
        have e4 := blk_cell g1 4
        simp only [setA, List.getElem?_toArray, List.getElem?_cons_zero, List.getElem?_cons_succ] at d0 d1 d2 d3 d4 e0 e1 e2 e3 e4
        have f0 := blk_frozen g1 0
        have f1 := blk_frozen g1 1
        have f2 := blk_frozen g1 2
        have f3 := blk_frozen g1 3
        have f4 := blk_frozen g1 4
        clear g0 g1 g2
        go_wp2
        refine bodyPost_ret (v := setV (begunM x h)) (by rw [HM'.out]; simp [results, Tryz.results133, go_sem, e0, e1, e2, e3, e4]) rfl ⟨rfl, ?_⟩
        repeat (first | exact hB | refine Below.setCell ?_ (by first | (simp; done) | (simp; omega)) _)
  · have i1 := inB_false hh
    have HM : Hid (begunM x h = 0) := by unfold Hid begunM; rw [if_neg hh]
    clear hh
    go_enter Tryz.func133, Tryz.ntmps133
    go_wp2_with (go_at_call 101; refine (in_calls _ _ _ _).mono ?_; rintro e w' ⟨rfl, rfl⟩)
    refine bodyPost_ret (v := setV (begunM x h)) (by rw [HM.out]; simp [results, Tryz.results133, go_sem, wd_zero]) rfl ⟨rfl, ?_⟩
    repeat (first | exact Below.refl _ _ | apply bl_alloc | refine Below.setCell ?_ (by first | (simp; done) | (simp; omega)) _)
end Go.Proofs.YtjekioabkmijbaaGreatDoor
set_option linter.unusedVariables false
set_option linter.unusedSimpArgs false
namespace Go.Proofs.YtjekioabkmijbaaGreatDoor
open Go.RowKit
def windsOk (ws : List DWind) : Prop := ws.length ≤ 1000000 ∧ ∀ x ∈ ws, rangeOk x.al x.ah (-2) 2 = true ∧ rangeOk x.sl x.sh (-2) 2 = true
structure Sky (s : DSea) (ws : List DWind) (f : Int) (vh vt vw : Value) (w : World) : Prop where
  sea : seaOk s = true
  winds : windsOk ws
  f : f = 1 ∨ f = 2
  hts : Sl intCs 1 w vh s.hts
  tds : Sl DTide.cs 2 w vt s.tds
  ws : Sl DWind.cs 9 w vw ws
theorem Sky.below {s : DSea} {ws : List DWind} {f : Int} {vh vt vw : Value} {w w' : World} (h : Sky s ws f vh vt vw w) (hb : Below w.heap.size w w') : Sky s ws f vh vt vw w' :=
  ⟨h.sea, h.winds, h.f, h.hts.below hb, h.tds.below hb, h.ws.below hb⟩
theorem seaOk_bounds {s : DSea} (h : seaOk s = true) : 1 ≤ s.cells ∧ s.cells ≤ 40 ∧ 1 ≤ s.bands ∧ s.bands ≤ 6 ∧ (s.hts.length : Int) = s.cells ∧ 1 ≤ s.tds.length ∧ s.tds.length ≤ 30 := by
  unfold seaOk at h; simp only [Bool.and_eq_true, decide_eq_true_eq] at h; exact h.1.1
theorem placeOk_bounds {s : DSea} {p : DPlace} (h : placeOk s p = true) : 0 ≤ p.c ∧ p.c ≤ s.cells - 1 ∧ 0 ≤ p.b ∧ p.b ≤ s.bands := by
  unfold placeOk at h; simp only [Bool.and_eq_true, decide_eq_true_eq] at h; exact ⟨h.1.1, h.1.2, h.2.1, h.2.2⟩
abbrev zeroA : Array Value := #[.int .u64 0, .int .u64 0, .int .u64 0, .int .u64 0, .int .u64 0]
theorem set_cells {W : World} {g m : Nat} {f : Nat × Nat} (h : W.heap[g]? = some (.cells (setA m) 115 f)) : W.cell? ⟨g, 0, none⟩ = some (.int .u64 (wd m 0)) ∧ W.cell? ⟨g, 1, none⟩ = some (.int .u64 (wd m 1)) ∧ W.cell? ⟨g, 2, none⟩ = some (.int .u64 (wd m 2)) ∧ W.cell? ⟨g, 3, none⟩ = some (.int .u64 (wd m 3)) ∧ W.cell? ⟨g, 4, none⟩ = some (.int .u64 (wd m 4)) :=
  ⟨blk_cell h 0, blk_cell h 1, blk_cell h 2, blk_cell h 3, blk_cell h 4⟩
theorem zero_cells {W : World} {g : Nat} {f : Nat × Nat} (h : W.heap[g]? = some (.cells zeroA 115 f)) : W.cell? ⟨g, 0, none⟩ = some (.int .u64 0) ∧ W.cell? ⟨g, 1, none⟩ = some (.int .u64 0) ∧ W.cell? ⟨g, 2, none⟩ = some (.int .u64 0) ∧ W.cell? ⟨g, 3, none⟩ = some (.int .u64 0) ∧ W.cell? ⟨g, 4, none⟩ = some (.int .u64 0) :=
  ⟨blk_cell h 0, blk_cell h 1, blk_cell h 2, blk_cell h 3, blk_cell h 4⟩
theorem five_frozen {W : World} {g : Nat} {A : Array Value} {t : TypeId} (h : W.heap[g]? = some (.cells A t (0, 0))) : W.frozen? ⟨g, 0, none⟩ = false ∧ W.frozen? ⟨g, 1, none⟩ = false ∧ W.frozen? ⟨g, 2, none⟩ = false ∧ W.frozen? ⟨g, 3, none⟩ = false ∧ W.frozen? ⟨g, 4, none⟩ = false :=
  ⟨blk_frozen h 0, blk_frozen h 1, blk_frozen h 2, blk_frozen h 3, blk_frozen h 4⟩
/-- The first blocks of a call of moves. -/
structure MRoom (w : World) (A : Array Value) (p : DPlace) (td : DTide) (W : World) : Prop where
  g0 : W.heap[w.heap.size]? = some (.cells A 110 (0, 0))
  g1 : W.heap[w.heap.size + 1]? = some (.cells #[iv p.c, iv p.b] 48 (0, 0))
  g2 : W.heap[w.heap.size + 1 + 1]? = some (.cells zeroA 115 (0, 0))
  g4 : W.heap[w.heap.size + 1 + 1 + 1 + 1]? = some (.cells #[iv td.al, iv td.ht] 138 (0, 0))
  hB : Below w.heap.size w W
section
variable {w W W' : World} {A : Array Value} {p : DPlace} {td : DTide}
theorem MRoom.lt (h : MRoom w A p td W) : w.heap.size + 1 + 1 + 1 + 1 < W.heap.size := blk_lt h.g4
theorem MRoom.below (h : MRoom w A p td W) (hb : Below W.heap.size W W') : MRoom w A p td W' := ⟨blk_below h.g0 hb, blk_below h.g1 hb, blk_below h.g2 hb, blk_below h.g4 hb, bl_step h.hB hb⟩
theorem MRoom.grown (h : MRoom w A p td W) (hg : W.grownBy W' (some (w.heap.size + 1 + 1 + 1))) : MRoom w A p td W' :=
  ⟨blk_grown h.g0 hg (by simp; omega), blk_grown h.g1 hg (by simp), blk_grown h.g2 hg (by simp), blk_grown h.g4 hg (by simp), h.hB.grown hg (by have := h.lt; omega) (fun b hb => by cases hb; omega)⟩
theorem MRoom.drewN (h : MRoom w A p td W) (n : Nat) : MRoom w A p td (W.drewN n) := ⟨h.g0, h.g1, h.g2, h.g4, bl_drewN h.hB n⟩
end
set_option maxHeartbeats 2000000 in
set_option maxRecDepth 100000 in
theorem moves_beach (s : DSea) (ws : List DWind) (f : Int) (vh vt vw : Value) (p : DPlace) (h : Int) (w : World) (hk : Sky s ws f vh vt vw w) (hp : placeOk s p = true) (hh : 0 ≤ h ∧ h ≤ 2000000) (hb0 : p.b = 0) :
    Calls Tryz.prog 84 #[.agg #[iv s.cells, iv s.bands, vh, vt, vw, iv f], placeV p, iv h] w fun e w' => e = .returned (setV (movesM s ws f p h)) ∧ Below w.heap.size w w' := by
  obtain ⟨s1, s2, s3, s4, s5, s6, s7⟩ := seaOk_bounds hk.sea
  obtain ⟨p1, p2, p3, p4⟩ := placeOk_bounds hp
  obtain ⟨h1, h2⟩ := hh
  obtain ⟨A1, c1, rfl, hc1, _⟩ := hk.hts.open_
  obtain ⟨A2, c2, rfl, hc2, _⟩ := hk.tds.open_
  obtain ⟨A3, c3, rfl, hc3, _⟩ := hk.ws.open_
  obtain ⟨n, hn⟩ : ∃ n, n = s.tds.length := ⟨_, rfl⟩
  obtain ⟨k, hkk⟩ : ∃ k, k = (h % (n : Int)).toNat := ⟨_, rfl⟩
  have m0 : 0 ≤ h % (n : Int) := Int.emod_nonneg _ (by omega)
  have m1 : h % (n : Int) < n := Int.emod_lt_of_pos _ (by omega)
  have k1 : h % (n : Int) = (k : Int) := by omega
  have k2 : h.tmod (n : Int) = (k : Int) := by rw [IntWalk.rem_in _ _ h1]; exact k1
  have k3 : k < n := by omega
  have k4 : (k : Int) < (n : Int) := by omega
  have HT : Hid (s.tds[k]? = some (tideAt s h)) := by
    unfold Hid tideAt; rw [← hn, ← hkk, List.getElem?_eq_getElem (by omega), List.getD_eq_getElem?_getD, List.getElem?_eq_getElem (by omega)]; rfl
  obtain ⟨b2, o2, rfl, t0, t1⟩ := hk.tds.tide k _ HT.out
  have k5 : ¬ n = 0 := by omega
  have j1 : p.c < (s.hts.length : Int) := by omega
  obtain ⟨H, hH⟩ : ∃ H, H = s.hts.getD p.c.toNat 0 := ⟨_, rfl⟩
  obtain ⟨b1, o1, rfl, u0⟩ := hk.hts.int p.c.toNat H (by rw [hH, List.getD_eq_getElem?_getD, List.getElem?_eq_getElem (by omega)]; rfl)
  have HH : Hid (H = s.hts.getD p.c.toNat 0) := hH
  clear hH
  obtain ⟨td, htd⟩ : ∃ td, td = tideAt s h := ⟨_, rfl⟩
  rw [← htd] at t0 t1
  have HTD : Hid (td = tideAt s h) := htd
  clear htd
  have l1 := World.block_lt_of_cell? w _ u0
  have l2 := World.block_lt_of_cell? w _ t0
  have HK := Lib.hid hk
  have HN := Lib.hid hn
  rw [← hn]
  clear hk hn hkk m0 m1
  have e0 : (p.b == 0) = true := by simp [hb0]
  have HB0 := Lib.hid hb0
  clear hb0
  go_enter Tryz.func84, Tryz.ntmps84
  go_wp2
  refine wp_abs (fun W hW => ?_)
  have g0 : W.heap[w.heap.size]? = some (.cells #[iv s.cells, iv s.bands, .slice (some ⟨b1, o1, none⟩) s.hts.length c1, .slice (some ⟨b2, o2, none⟩) n c2, .slice A3 ws.length c3, iv f] 110 (0, 0)) := by rw [hW]; exact blk_alloc (blk_alloc (blk_alloc (blk_new _ _) _) _) _
  have g1 : W.heap[w.heap.size + 1]? = some (.cells #[iv p.c, iv p.b] 48 (0, 0)) := by rw [hW]; exact blk_alloc (blk_alloc (blk_at _ (by simp)) _) _
  have g2 : W.heap[w.heap.size + 1 + 1]? = some (.cells #[.int .u64 0, .int .u64 0, .int .u64 0, .int .u64 0, .int .u64 0] 115 (0, 0)) := by rw [hW]; exact blk_alloc (blk_at _ (by simp)) _
  have g3 : W.heap[w.heap.size + 1 + 1 + 1]? = some (.cells #[.int .u64 0, .int .u64 0, .int .u64 0, .int .u64 0, .int .u64 0] 115 (0, 0)) := by rw [hW]; exact blk_at _ (by simp)
  have hsz : W.heap.size = w.heap.size + 1 + 1 + 1 + 1 := by rw [hW]; simp
  have hB : Below w.heap.size w W := by rw [hW]; exact bl_alloc (bl_alloc (bl_alloc (bl_alloc (Below.refl _ _) _) _) _) _
  clear hW
  replace t0 := (hB.cell l2).trans t0
  replace t1 := (hB.cell l2).trans t1
  have a0 := blk_cell g0 0
  have a1 := blk_cell g0 1
  have a2 := blk_cell g0 2
  have a3 := blk_cell g0 3
  have a4 := blk_cell g0 4
  have a5 := blk_cell g0 5
  have a6 := blk_cell g1 0
  have a7 := blk_cell g1 1
  simp only [List.getElem?_toArray, List.getElem?_cons_zero, List.getElem?_cons_succ] at a0 a1 a2 a3 a4 a5 a6 a7
  have G0 := Lib.hid g0
  have G1 := Lib.hid g1
  have G2 := Lib.hid g2
  have G3 := Lib.hid g3
  have HB := Lib.hid hB
  have HZ := Lib.hid hsz
  have z0 : w.heap.size < W.heap.size := by omega
  have z1 : w.heap.size + 1 < W.heap.size := by omega
  have z2 : w.heap.size + 1 + 1 < W.heap.size := by omega
  have z3 : w.heap.size + 1 + 1 + 1 < W.heap.size := by omega
  have z4 : b2 < W.heap.size := by omega
  clear g0 g1 g2 g3 hB hsz
  go_region
  go_wp2_with fail
  refine calls_abs (fun W2 hW2 => ?_)
  have hM : MRoom w #[iv s.cells, iv s.bands, .slice (some ⟨b1, o1, none⟩) s.hts.length c1, .slice (some ⟨b2, o2, none⟩) n c2, .slice A3 ws.length c3, iv f] p td W2 := by
    rw [hW2]; exact ⟨blk_alloc G0.out _, blk_alloc G1.out _, blk_alloc G2.out _, blk_at _ HZ.out.symm, (bl_alloc HB.out _).drew⟩
  have q3 : W2.heap[w.heap.size + 1 + 1 + 1]? = some (.cells (setA 0) 115 (0, 0)) := by rw [hW2, setA_zero]; exact blk_alloc G3.out _
  clear hW2 a0 a1 a2 a3 a4 a5 a6 a7
  have hpp : okP p := ⟨p1, by omega, p3, by omega⟩
  refine (add_calls _ 0 p _ hpp q3).mono ?_
  rintro e W3 ⟨rfl, q3', hg⟩
  have hM3 := hM.grown hg
  clear hM hg q3
  have v0 := blk_cell hM3.g0 2
  have v1 := blk_cell hM3.g1 0
  have v2 := blk_cell hM3.g4 1
  simp only [List.getElem?_toArray, List.getElem?_cons_zero, List.getElem?_cons_succ] at v0 v1 v2
  replace u0 := (hM3.hB.cell l1).trans u0
  rw [← HZ.out] at v2
  have HM3 := Lib.hid hM3
  have Q3 := Lib.hid q3'
  clear hM3 q3'
  by_cases hge : H ≤ td.ht
  · have HE : Hid (movesM s ws f p h = bit p ||| bit ⟨p.c, 1⟩) := by unfold Hid movesM; rw [if_pos HB0.out, ← HH.out, ← HTD.out, if_pos hge]
    go_wp2_with fail
    go_quiet (fail)
    go_wp2_with fail
    have hpq : okP ⟨p.c, 1⟩ := ⟨p1, by show p.c ≤ 39; omega, by show (0 : Int) ≤ 1; omega, by show (1 : Int) ≤ 6; omega⟩
    refine (add_calls _ _ ⟨p.c, 1⟩ _ hpq (show (W3.drewN nq).heap[_]? = _ from Q3.out)).mono ?_
    rintro e W4 ⟨rfl, q4, hg⟩
    have hM4 := (HM3.out.drewN nq).grown hg
    rw [Nat.zero_or] at q4
    obtain ⟨d0, d1, d2, d3, d4⟩ := set_cells q4
    obtain ⟨e0, e1, e2, e3, e4⟩ := zero_cells hM4.g2
    obtain ⟨f0, f1, f2, f3, f4⟩ := five_frozen hM4.g2
    have hBM := Lib.hid hM4.hB
    clear q4 hg hM4
    go_wp2
    refine bodyPost_ret (v := setV (movesM s ws f p h)) (by rw [HE.out]; simp [results, Tryz.results84, go_sem, e0, e1, e2, e3, e4]) rfl ⟨rfl, ?_⟩
    repeat (first | (with_reducible exact hBM.out) | refine Below.setCell ?_ (by first | (simp; done) | (simp; omega)) _)
  · have HE : Hid (movesM s ws f p h = bit p) := by unfold Hid movesM; rw [if_pos HB0.out, ← HH.out, ← HTD.out, if_neg hge, Nat.or_zero]
    go_wp2_with fail
    go_quiet (fail)
    obtain ⟨d0, d1, d2, d3, d4⟩ := set_cells Q3.out
    obtain ⟨e0, e1, e2, e3, e4⟩ := zero_cells HM3.out.g2
    obtain ⟨f0, f1, f2, f3, f4⟩ := five_frozen HM3.out.g2
    have hBM := Lib.hid (bl_drewN HM3.out.hB nq)
    rw [Nat.zero_or] at d0 d1 d2 d3 d4
    go_wp2
    refine bodyPost_ret (v := setV (movesM s ws f p h)) (by rw [HE.out]; simp [results, Tryz.results84, go_sem, e0, e1, e2, e3, e4]) rfl ⟨rfl, ?_⟩
    repeat (first | (with_reducible exact hBM.out) | refine Below.setCell ?_ (by first | (simp; done) | (simp; omega)) _)
end Go.Proofs.YtjekioabkmijbaaGreatDoor
