/- asked. -/
import Derived.Test.YtjekioabkmijbaaGreatDoorZ16
import Derived.Laws.Pointers
set_option linter.unusedVariables false
set_option linter.unusedSimpArgs false
namespace Go.Proofs.YtjekioabkmijbaaGreatDoor
open Go.RowKit
/-- What asked gives. -/
def AskPost (s : DSea) (l : List DWind) (known : Int) (f : Int) (vh vt : Value) (er : Int) (w : World) (e : Ending) (w' : World) : Prop :=
  ∃ q0 q1 A2 n2 c2 A3 n3 c3 A4 n4 c4 q5, e = .returned (.tuple #[.agg #[iv q0, iv q1, .slice A2 n2 c2, .slice A3 n3 c3, .slice A4 n4 c4, iv q5], iv er]) ∧ (er = 0 → .agg #[iv q0, iv q1, .slice A2 n2 c2, .slice A3 n3 c3, .slice A4 n4 c4, iv q5] = skyV s f vh vt (.slice A4 n4 c4) ∧ Own DWind.cs 9 53 w.heap.size w' (.slice A4 n4 c4) (counting l known)) ∧ Below w.heap.size w w'
theorem loss_one (x : DLoss) (w : World) : Sl DLoss.cs 7 (w.alloc (.cells (lossA x) 30)) (.slice (some ⟨w.heap.size, 0, none⟩) 1 1) [x] :=
  ⟨_, _, rfl, Nat.le_refl _, by simp, fun i y hy => by
    cases i with
    | zero =>
      simp at hy; subst hy
      refine ⟨w.heap.size, 0, rfl, fun j u hu => ?_⟩
      have := blk_cell (blk_new w (.cells (lossA x) 30)) j
      simp only [Nat.zero_mul, Nat.zero_add]
      rw [this]
      simpa [DLoss.cs] using hu
    | succ i => simp at hy⟩
theorem ptr_nil (w : World) : (binOp .neq 128 (.pointer none) (.pointer none)).run Tryz.prog w = .ok (.bool false) w := run_neq_pointer_nil w 128 none (by kernel_rfl)
theorem ptr_some (a : Addr) (w : World) : (binOp .neq 128 (.pointer (some a)) (.pointer none)).run Tryz.prog w = .ok (.bool true) w := run_neq_pointer_nil w 128 (some a) (by kernel_rfl)
theorem Own.isCells' {α : Type} {cs : α → List Value} {k e base : Nat} {V : World} {v : Value} {xs : List α} (h : Own cs k e base V v xs) {b : Nat} (hb : v.ownBlock = some b) : ∃ cur, V.heap[b]? = some (.cells cur e (0, 0)) := by
  rcases h.2 with ⟨rfl, _⟩ | ⟨g, cap, cur, rfl, hg, hh, r⟩
  · simp [Value.ownBlock] at hb
  · simp [Value.ownBlock] at hb; subst hb; exact ⟨_, hh⟩
theorem loss_cells {W : World} {g : Nat} {x : DLoss} {f : Nat × Nat} (h : W.heap[g]? = some (.cells (lossA x) 30 f)) : W.cell? ⟨g, 0, none⟩ = some (iv x.id) ∧ W.cell? ⟨g, 1, none⟩ = some (iv x.cl) ∧ W.cell? ⟨g, 2, none⟩ = some (iv x.ch) ∧ W.cell? ⟨g, 3, none⟩ = some (iv x.bl) ∧ W.cell? ⟨g, 4, none⟩ = some (iv x.bh) ∧ W.cell? ⟨g, 5, none⟩ = some (iv x.hl) ∧ W.cell? ⟨g, 6, none⟩ = some (iv x.hh) :=
  ⟨blk_cell h 0, blk_cell h 1, blk_cell h 2, blk_cell h 3, blk_cell h 4, blk_cell h 5, blk_cell h 6⟩
theorem blk_set6 {w : World} {g : Nat} {t : TypeId} {f : Nat × Nat} {a0 a1 a2 a3 a4 a5 : Value} (h : w.heap[g]? = some (.cells #[a0, a1, a2, a3, a4, a5] t f)) (u0 u1 u2 u3 u4 u5 : Value) : ((((((w.setCell ⟨g, 0, none⟩ u0).setCell ⟨g, 1, none⟩ u1).setCell ⟨g, 2, none⟩ u2).setCell ⟨g, 3, none⟩ u3).setCell ⟨g, 4, none⟩ u4).setCell ⟨g, 5, none⟩ u5).heap[g]? = some (.cells #[u0, u1, u2, u3, u4, u5] t f) := by
  have := (blk_set (blk_set (blk_set (blk_set (blk_set (blk_set h 0 u0) 1 u1) 2 u2) 3 u3) 4 u4) 5 u5)
  simpa using this
theorem orE_zero {a b : Int} (h : orE a b = 0) : a = 0 ∧ b = 0 := by unfold orE at h; split at h; exact ⟨‹_›, h⟩; exact absurd h ‹_›
theorem errSea_zero {s : DSea} (h : errSea s = 0) : seaOk s = true := by
  unfold errSea at h; split at h
  · assumption
  · simp at h
/-- What stands behind a sailing without an error. -/
theorem sail_parts {s : DSea} {l : List DWind} {x : DLoss} {f : Int} (h : errSail s l [x] f = 0) : seaOk s = true ∧ (errLog l).2 = 0 ∧ lossOk s x = true ∧ (f = 1 ∨ f = 2) := by
  unfold errSail at h
  obtain ⟨h1, h⟩ := orE_zero h
  obtain ⟨h2, h⟩ := orE_zero h
  obtain ⟨h3, h4⟩ := orE_zero h
  refine ⟨errSea_zero h1, h2, ?_, ?_⟩
  · simp only [List.map_cons, List.map_nil, List.foldr_cons, List.foldr_nil] at h3
    have := (orE_zero h3).1
    unfold errLoss at this
    split at this
    · rename_i hh; rw [Bool.and_eq_true] at hh; exact hh.2
    · simp at this
  · split at h4
    · assumption
    · simp at h4
set_option maxHeartbeats 2000000 in
set_option maxRecDepth 20000 in
theorem asked_none (s : DSea) (l : List DWind) (x : DLoss) (known f h : Int) (vh vt vl : Value) (w : World) (hf : 0 ≤ f ∧ f ≤ 255) (h1 : Sl intCs 1 w vh s.hts) (h2 : Sl DTide.cs 2 w vt s.tds) (h3 : Sl DWind.cs 9 w vl l) :
    Calls Tryz.prog 76 #[.agg #[iv s.cells, iv s.bands, vh, vt], vl, iv known, lossV x, .int .u8 f, .pointer none, iv h] w fun e w' => AskPost s l known f vh vt (errAsk s l x f none h) w e w' := by
  have q := ptr_nil
  have H1 := Lib.hid h1
  have H2 := Lib.hid h2
  have H3 := Lib.hid h3
  have HE : Hid (errAsk s l x f none h = orE (errSail s l [x] f) (errFar x h)) := by unfold Hid errAsk; cases errSail s l [x] f <;> simp [orE]
  generalize errAsk s l x f none h = er at HE ⊢
  clear h1 h2 h3
  go_enter Tryz.func76, Tryz.ntmps76
  go_wp2_with fail
  refine calls_abs (fun W hW => ?_)
  have g1 : W.heap[w.heap.size + 1]? = some (.cells (lossA x) 30 (0, 0)) := by rw [hW]; exact blk_alloc (blk_alloc (blk_at _ (by simp)) _) _
  have g2 : W.heap[w.heap.size + 1 + 1]? = some (.cells #[iv 0, iv 0, .slice none 0 0, .slice none 0 0, .slice none 0 0, iv 0] 110 (0, 0)) := by rw [hW]; exact blk_alloc (blk_at _ (by simp)) _
  have hB : Below w.heap.size w W := by rw [hW]; exact bl_alloc (bl_alloc (bl_alloc (bl_alloc (Below.refl _ _) _) _) _) _
  have hs1 : Sl DLoss.cs 7 W (.slice (some ⟨w.heap.size + 1 + 1 + 1, 0, none⟩) 1 1) [x] := by
    rw [hW]
    have := loss_one x (((w.alloc (.cells #[iv s.cells, iv s.bands, vh, vt] 25)).alloc (.cells (lossA x) 30)).alloc (.cells #[iv 0, iv 0, .slice none 0 0, .slice none 0 0, .slice none 0 0, iv 0] 110))
    rwa [show (((w.alloc (.cells #[iv s.cells, iv s.bands, vh, vt] 25)).alloc (.cells (lossA x) 30)).alloc (.cells #[iv 0, iv 0, .slice none 0 0, .slice none 0 0, .slice none 0 0, iv 0] 110)).heap.size = w.heap.size + 1 + 1 + 1 by simp] at this
  clear hW
  refine (sailed_calls s l [x] known f vh vt vl _ W hf (H1.out.below hB) (H2.out.below hB) (H3.out.below hB) hs1).mono ?_
  rintro e w1 ⟨vw, rfl, ho, hb1⟩
  have HB1 := Lib.hid (bl_step hB hb1)
  have G1 := Lib.hid (blk_below g1 hb1)
  have G2 := Lib.hid (blk_below g2 hb1)
  obtain ⟨c0, c1, c2, c3, c4, c5⟩ := sky_cells G2.out
  obtain ⟨f0, f1, f2, f3, f4, f5⟩ := sky_frozen G2.out
  have l2 := blk_lt G2.out
  obtain ⟨A1, k1, rfl, hk1, hlk1⟩ := H1.out.open_
  obtain ⟨A2, k2, rfl, hk2, hlk2⟩ := H2.out.open_
  obtain ⟨er0, her0⟩ : ∃ q, q = errSail s l [x] f := ⟨_, rfl⟩
  rw [← her0] at ho HE ⊢
  have HS := Lib.hid her0
  have HOW := Lib.hid (fun h => (ho h).mono (base' := w.heap.size) hB.size)
  clear hs1 g1 g2 hB hb1 ho her0
  by_cases h0 : er0 = 0
  · subst h0
    obtain ⟨A', cc, rfl⟩ := (HOW.out rfl).slice
    have HOO := Lib.hid (HOW.out rfl)
    clear HOW
    have hll := sail_parts HS.out.symm
    have HL := Lib.hid hll
    clear hll
    have l1 := blk_lt G1.out
    have d0 := blk_cell G1.out 0
    have d1 := blk_cell G1.out 1
    have d2 := blk_cell G1.out 2
    have d3 := blk_cell G1.out 3
    have d4 := blk_cell G1.out 4
    have d5 := blk_cell G1.out 5
    have d6 := blk_cell G1.out 6
    simp only [List.getElem?_toArray, List.getElem?_cons_zero, List.getElem?_cons_succ] at d0 d1 d2 d3 d4 d5 d6
    rw [if_pos rfl]
    unfold skyV
    clear c0 c1 c2 c3 c4 c5 f0 f1 f2 f3 f4 f5
    go_wp2_with fail
    refine calls_abs (fun W2 hW2 => ?_)
    have hs2 : W2.heap[w1.heap.size]? = some (.cells #[iv s.cells, iv s.bands, .slice A1 s.hts.length k1, .slice A2 s.tds.length k2, .slice A' (counting l known).length cc, iv f] 110 (0, 0)) := by rw [hW2]; first | exact blk_new _ _ | exact blk_set6 (blk_new _ _) _ _ _ _ _ _
    have hb2 : Below w1.heap.size w1 W2 := by rw [hW2]; repeat (first | exact bl_alloc (Below.refl _ _) _ | refine Below.setCell ?_ (by first | (simp; done) | (simp; omega)) _)
    clear hW2
    refine (far_calls x h W2 (lossOk_bounds HL.out.1 HL.out.2.2.1).2).mono ?_
    rintro e w3 ⟨rfl, hb3⟩
    have HB3 := Lib.hid (bl_step HB1.out (hb2.trans (hb3.mono hb2.size)))
    have G2' := Lib.hid (blk_below (blk_below G2.out hb2) hb3)
    have GS := Lib.hid (blk_below hs2 hb3)
    have HW1 := Lib.hid (HOO.out.below (hb2.trans (hb3.mono hb2.size)))
    have l3 := blk_lt GS.out
    obtain ⟨c0, c1, c2, c3, c4, c5⟩ := sky_cells GS.out
    obtain ⟨e0, e1, e2, e3, e4, e5⟩ := sky_cells G2'.out
    have n1 : ¬ w1.heap.size = w.heap.size + 1 + 1 := by omega
    obtain ⟨f0, f1, f2, f3, f4, f5⟩ := sky_frozen G2'.out
    clear hs2 hb2 hb3 d0 d1 d2 d3 d4 d5 d6
    have HE' : Hid (er = errFar x h) := by rw [HE.out]; simp [orE, Hid]
    go_wp2_with fail
    refine wp_abs_post (fun U hU => ?_)
    have gU : U.heap[w.heap.size + 1 + 1]? = some (.cells #[iv s.cells, iv s.bands, .slice A1 s.hts.length k1, .slice A2 s.tds.length k2, .slice A' (counting l known).length cc, iv f] 110 (0, 0)) := by rw [hU]; exact blk_set6 G2'.out _ _ _ _ _ _
    have hbU : Below w.heap.size w U := by
      rw [hU]
      have hbx := HB3.out
      repeat (first | (with_reducible exact hbx) | refine Below.setCell ?_ (by first | (simp; done) | (simp; omega)) _)
    have hoU : Own DWind.cs 9 53 w.heap.size U (.slice A' (counting l known).length cc) (counting l known) := by
      rw [hU]
      have ho := HW1.out
      have hne : ∀ i, (Value.slice A' (counting l known).length cc).ownBlock ≠ some (⟨w.heap.size + 1 + 1, i, none⟩ : Addr).block := fun i h => by
        obtain ⟨cur, hcur⟩ := HW1.out.isCells' h
        rw [G2'.out] at hcur
        simp at hcur
      exact (((((ho.set (hne 0) _).set (hne 1) _).set (hne 2) _).set (hne 3) _).set (hne 4) _).set (hne 5) _
    clear hU c0 c1 c2 c3 c4 c5 e0 e1 e2 e3 e4 e5 f0 f1 f2 f3 f4 f5
    obtain ⟨c0, c1, c2, c3, c4, c5⟩ := sky_cells gU
    refine bodyPost_ret (v := .tuple #[.agg #[iv s.cells, iv s.bands, .slice A1 s.hts.length k1, .slice A2 s.tds.length k2, .slice A' (counting l known).length cc, iv f], iv er]) (by rw [HE'.out]; simp [results, Tryz.results76, go_sem, c0, c1, c2, c3, c4, c5]) rfl ⟨_, _, _, _, _, _, _, _, _, _, _, _, rfl, fun _ => ⟨rfl, hoU⟩, hbU⟩
  · rw [if_neg h0]
    unfold zeroSky
    go_wp2_with fail
    have HE' : Hid (er = er0) := by rw [HE.out]; simp [orE, h0, Hid]
    refine wp_abs_post (fun U hU => ?_)
    have gU : U.heap[w.heap.size + 1 + 1]? = some (.cells #[iv 0, iv 0, .slice none 0 0, .slice none 0 0, .slice none 0 0, iv 0] 110 (0, 0)) := by rw [hU]; exact blk_alloc (blk_set6 G2.out _ _ _ _ _ _) _
    have hbU : Below w.heap.size w U := by
      rw [hU]
      refine Below.alloc ?_ (by have := HB1.out.size; simp; omega) _
      have hbx := HB1.out
      repeat (first | (with_reducible exact hbx) | refine Below.setCell ?_ (by first | (simp; done) | (simp; omega)) _)
    clear hU c0 c1 c2 c3 c4 c5 f0 f1 f2 f3 f4 f5
    obtain ⟨c0, c1, c2, c3, c4, c5⟩ := sky_cells gU
    refine bodyPost_ret (v := .tuple #[.agg #[iv 0, iv 0, .slice none 0 0, .slice none 0 0, .slice none 0 0, iv 0], iv er]) (by rw [HE'.out]; simp [results, Tryz.results76, go_sem, c0, c1, c2, c3, c4, c5]) rfl ⟨_, _, _, _, _, _, _, _, _, _, _, _, rfl, fun h => absurd (HE'.out.symm.trans h) h0, hbU⟩
set_option maxHeartbeats 2000000 in
set_option maxRecDepth 20000 in
theorem asked_some (s : DSea) (l : List DWind) (x : DLoss) (p : DPlace) (known f h : Int) (vh vt vl : Value) (pb : Nat) (w : World) (hf : 0 ≤ f ∧ f ≤ 255) (h1 : Sl intCs 1 w vh s.hts) (h2 : Sl DTide.cs 2 w vt s.tds) (h3 : Sl DWind.cs 9 w vl l) (hp : w.heap[pb]? = some (.cells #[iv p.c, iv p.b] 48 (0, 0))) :
    Calls Tryz.prog 76 #[.agg #[iv s.cells, iv s.bands, vh, vt], vl, iv known, lossV x, .int .u8 f, .pointer (some ⟨pb, 0, none⟩), iv h] w fun e w' => AskPost s l known f vh vt (errAsk s l x f (some p) h) w e w' := by
  have q := ptr_some ⟨pb, 0, none⟩
  have HP := Lib.hid hp
  have H1 := Lib.hid h1
  have H2 := Lib.hid h2
  have H3 := Lib.hid h3
  have HE : Hid (errAsk s l x f (some p) h = orE (errSail s l [x] f) (orE (errPlace s p) (errFar x h))) := rfl
  generalize errAsk s l x f (some p) h = er at HE ⊢
  clear h1 h2 h3 hp
  go_enter Tryz.func76, Tryz.ntmps76
  go_wp2_with fail
  refine calls_abs (fun W hW => ?_)
  have g1 : W.heap[w.heap.size + 1]? = some (.cells (lossA x) 30 (0, 0)) := by rw [hW]; exact blk_alloc (blk_alloc (blk_at _ (by simp)) _) _
  have g2 : W.heap[w.heap.size + 1 + 1]? = some (.cells #[iv 0, iv 0, .slice none 0 0, .slice none 0 0, .slice none 0 0, iv 0] 110 (0, 0)) := by rw [hW]; exact blk_alloc (blk_at _ (by simp)) _
  have hB : Below w.heap.size w W := by rw [hW]; exact bl_alloc (bl_alloc (bl_alloc (bl_alloc (Below.refl _ _) _) _) _) _
  have hs1 : Sl DLoss.cs 7 W (.slice (some ⟨w.heap.size + 1 + 1 + 1, 0, none⟩) 1 1) [x] := by
    rw [hW]
    have := loss_one x (((w.alloc (.cells #[iv s.cells, iv s.bands, vh, vt] 25)).alloc (.cells (lossA x) 30)).alloc (.cells #[iv 0, iv 0, .slice none 0 0, .slice none 0 0, .slice none 0 0, iv 0] 110))
    rwa [show (((w.alloc (.cells #[iv s.cells, iv s.bands, vh, vt] 25)).alloc (.cells (lossA x) 30)).alloc (.cells #[iv 0, iv 0, .slice none 0 0, .slice none 0 0, .slice none 0 0, iv 0] 110)).heap.size = w.heap.size + 1 + 1 + 1 by simp] at this
  clear hW
  refine (sailed_calls s l [x] known f vh vt vl _ W hf (H1.out.below hB) (H2.out.below hB) (H3.out.below hB) hs1).mono ?_
  rintro e w1 ⟨vw, rfl, ho, hb1⟩
  have HB1 := Lib.hid (bl_step hB hb1)
  have G1 := Lib.hid (blk_below g1 hb1)
  have G2 := Lib.hid (blk_below g2 hb1)
  obtain ⟨c0, c1, c2, c3, c4, c5⟩ := sky_cells G2.out
  obtain ⟨f0, f1, f2, f3, f4, f5⟩ := sky_frozen G2.out
  have l2 := blk_lt G2.out
  obtain ⟨A1, k1, rfl, hk1, hlk1⟩ := H1.out.open_
  obtain ⟨A2, k2, rfl, hk2, hlk2⟩ := H2.out.open_
  obtain ⟨er0, her0⟩ : ∃ q, q = errSail s l [x] f := ⟨_, rfl⟩
  rw [← her0] at ho HE ⊢
  have HS := Lib.hid her0
  have HOW := Lib.hid (fun h => (ho h).mono (base' := w.heap.size) hB.size)
  clear hs1 g1 g2 hB hb1 ho her0
  by_cases h0 : er0 = 0
  · subst h0
    obtain ⟨A', cc, rfl⟩ := (HOW.out rfl).slice
    have HOO := Lib.hid (HOW.out rfl)
    clear HOW
    have hll := sail_parts HS.out.symm
    have HL := Lib.hid hll
    clear hll
    have l1 := blk_lt G1.out
    have d0 := blk_cell G1.out 0
    have d1 := blk_cell G1.out 1
    have d2 := blk_cell G1.out 2
    have d3 := blk_cell G1.out 3
    have d4 := blk_cell G1.out 4
    have d5 := blk_cell G1.out 5
    have d6 := blk_cell G1.out 6
    simp only [List.getElem?_toArray, List.getElem?_cons_zero, List.getElem?_cons_succ] at d0 d1 d2 d3 d4 d5 d6
    rw [if_pos rfl]
    unfold skyV
    clear c0 c1 c2 c3 c4 c5 f0 f1 f2 f3 f4 f5
    go_wp2_with fail
    refine wp_abs (fun W2 hW2 => ?_)
    have hs2 : W2.heap[w1.heap.size]? = some (.cells #[iv s.cells, iv s.bands, .slice A1 s.hts.length k1, .slice A2 s.tds.length k2, .slice A' (counting l known).length cc, iv f] 110 (0, 0)) := by rw [hW2]; exact blk_new _ _
    have hb2 : Below w1.heap.size w1 W2 := by rw [hW2]; exact bl_alloc (Below.refl _ _) _
    clear hW2
    have gp := blk_below (blk_below HP.out HB1.out) hb2
    have g1' := blk_below G1.out hb2
    obtain ⟨c0, c1, c2, c3, c4, c5⟩ := sky_cells hs2
    have p0 := blk_cell gp 0
    have p1 := blk_cell gp 1
    replace d0 := blk_cell g1' 0
    replace d1 := blk_cell g1' 1
    replace d2 := blk_cell g1' 2
    replace d3 := blk_cell g1' 3
    replace d4 := blk_cell g1' 4
    replace d5 := blk_cell g1' 5
    replace d6 := blk_cell g1' 6
    simp only [List.getElem?_toArray, List.getElem?_cons_zero, List.getElem?_cons_succ] at d0 d1 d2 d3 d4 d5 d6 p0 p1
    have ls2 := blk_lt hs2
    have lp2 := blk_lt gp
    have l12 := blk_lt g1'
    have GS0 := Lib.hid hs2
    have HB2 := Lib.hid hb2
    have HSC : Hid (1 ≤ s.cells ∧ s.cells ≤ 40) := ⟨(seaOk_bounds HL.out.1).1, (seaOk_bounds HL.out.1).2.1⟩
    clear gp g1' hs2 hb2
    go_region_held3 (fun V => (∀ b o, b < W2.heap.size → V.cell? ⟨b, o, none⟩ = W2.cell? ⟨b, o, none⟩) ∧ Hid (Below W2.heap.size W2 V)) (first | exact sees_start W2 | exact sees_step (by assumption) hb7) (first | (go_at_call 118; refine (place_calls s _ _ _ _ _ _ _ _ _ f p _ HSC.out).mono ?_; rintro e w' ⟨rfl, hb7⟩))
    rename _ ∧ Hid (Below W2.heap.size W2 _) => hAnd
    have hbx := hAnd.2.out
    have HBX := Lib.hid hbx
    clear hAnd hbx hb7 c0 c1 c2 c3 c4 c5 p0 p1 d0 d1 d2 d3 d4 d5 d6
    have G1X := Lib.hid (blk_below (blk_below G1.out HB2.out) HBX.out)
    have GSX := Lib.hid (blk_below GS0.out HBX.out)
    have G2X := Lib.hid (blk_below (blk_below G2.out HB2.out) HBX.out)
    have HBW := Lib.hid (bl_step (bl_step HB1.out HB2.out) HBX.out)
    have HOX := Lib.hid ((HOO.out.below HB2.out).below HBX.out)
    have lx := blk_lt GSX.out
    have n1 : ¬ w1.heap.size = w.heap.size + 1 + 1 := by omega
    obtain ⟨ep, hep⟩ : ∃ q, q = errPlace s p := ⟨_, rfl⟩
    rw [← hep] at HE
    (try rw [← hep])
    clear hep
    by_cases hp0 : ep = 0
    · subst hp0
      have HE' : Hid (er = errFar x h) := by rw [HE.out]; simp [orE, Hid]
      obtain ⟨d0, d1, d2, d3, d4, d5, d6⟩ := loss_cells G1X.out
      have l30 := blk_lt G1X.out
      go_wp2_with fail
      refine (far_calls x h _ (lossOk_bounds HL.out.1 HL.out.2.2.1).2).mono ?_
      rintro e w3 ⟨rfl, hb3⟩
      have HB3 := Lib.hid (bl_step HBW.out hb3)
      have G2' := Lib.hid (blk_below G2X.out hb3)
      have GS := Lib.hid (blk_below GSX.out hb3)
      have HW1 := Lib.hid (HOX.out.below hb3)
      have l3 := blk_lt GS.out
      obtain ⟨c0, c1, c2, c3, c4, c5⟩ := sky_cells GS.out
      obtain ⟨e0, e1, e2, e3, e4, e5⟩ := sky_cells G2'.out
      obtain ⟨f0, f1, f2, f3, f4, f5⟩ := sky_frozen G2'.out
      clear hb3 d0 d1 d2 d3 d4 d5 d6
      go_wp2_with fail
      refine wp_abs_post (fun U hU => ?_)
      have gU : U.heap[w.heap.size + 1 + 1]? = some (.cells #[iv s.cells, iv s.bands, .slice A1 s.hts.length k1, .slice A2 s.tds.length k2, .slice A' (counting l known).length cc, iv f] 110 (0, 0)) := by rw [hU]; exact blk_set6 G2'.out _ _ _ _ _ _
      have hbU : Below w.heap.size w U := by
        rw [hU]
        have hbx := HB3.out
        repeat (first | (with_reducible exact hbx) | refine Below.setCell ?_ (by first | (simp; done) | (simp; omega)) _)
      have hoU : Own DWind.cs 9 53 w.heap.size U (.slice A' (counting l known).length cc) (counting l known) := by
        rw [hU]
        have ho := HW1.out
        have hne : ∀ i, (Value.slice A' (counting l known).length cc).ownBlock ≠ some (⟨w.heap.size + 1 + 1, i, none⟩ : Addr).block := fun i h => by
          obtain ⟨cur, hcur⟩ := HW1.out.isCells' h
          rw [G2'.out] at hcur
          simp at hcur
        exact (((((ho.set (hne 0) _).set (hne 1) _).set (hne 2) _).set (hne 3) _).set (hne 4) _).set (hne 5) _
      clear hU c0 c1 c2 c3 c4 c5 e0 e1 e2 e3 e4 e5 f0 f1 f2 f3 f4 f5
      obtain ⟨c0, c1, c2, c3, c4, c5⟩ := sky_cells gU
      refine bodyPost_ret (v := .tuple #[.agg #[iv s.cells, iv s.bands, .slice A1 s.hts.length k1, .slice A2 s.tds.length k2, .slice A' (counting l known).length cc, iv f], iv er]) (by rw [HE'.out]; simp [results, Tryz.results76, go_sem, c0, c1, c2, c3, c4, c5]) rfl ⟨_, _, _, _, _, _, _, _, _, _, _, _, rfl, fun _ => ⟨rfl, hoU⟩, hbU⟩
    · have HNZ := Lib.hid hp0
      have HE' : Hid (er = ep) := by rw [HE.out]; simp [orE, HNZ.out, Hid]
      have hq0 : (ep == 0) = false := by simpa using hp0
      obtain ⟨c0, c1, c2, c3, c4, c5⟩ := sky_cells GSX.out
      obtain ⟨e0, e1, e2, e3, e4, e5⟩ := sky_cells G2X.out
      obtain ⟨f0, f1, f2, f3, f4, f5⟩ := sky_frozen G2X.out
      have G2' := G2X
      have HB3 := HBW
      have HW1 := HOX
      clear hp0
      go_wp2_with fail
      refine wp_abs_post (fun U hU => ?_)
      have gU : U.heap[w.heap.size + 1 + 1]? = some (.cells #[iv s.cells, iv s.bands, .slice A1 s.hts.length k1, .slice A2 s.tds.length k2, .slice A' (counting l known).length cc, iv f] 110 (0, 0)) := by rw [hU]; exact blk_set6 G2'.out _ _ _ _ _ _
      have hbU : Below w.heap.size w U := by
        rw [hU]
        have hbx := HB3.out
        repeat (first | (with_reducible exact hbx) | refine Below.setCell ?_ (by first | (simp; done) | (simp; omega)) _)
      have hoU : Own DWind.cs 9 53 w.heap.size U (.slice A' (counting l known).length cc) (counting l known) := by
        rw [hU]
        have ho := HW1.out
        have hne : ∀ i, (Value.slice A' (counting l known).length cc).ownBlock ≠ some (⟨w.heap.size + 1 + 1, i, none⟩ : Addr).block := fun i h => by
          obtain ⟨cur, hcur⟩ := HW1.out.isCells' h
          rw [G2'.out] at hcur
          simp at hcur
        exact (((((ho.set (hne 0) _).set (hne 1) _).set (hne 2) _).set (hne 3) _).set (hne 4) _).set (hne 5) _
      clear hU c0 c1 c2 c3 c4 c5 e0 e1 e2 e3 e4 e5 f0 f1 f2 f3 f4 f5
      obtain ⟨c0, c1, c2, c3, c4, c5⟩ := sky_cells gU
      refine bodyPost_ret (v := .tuple #[.agg #[iv s.cells, iv s.bands, .slice A1 s.hts.length k1, .slice A2 s.tds.length k2, .slice A' (counting l known).length cc, iv f], iv er]) (by rw [HE'.out]; simp [results, Tryz.results76, go_sem, c0, c1, c2, c3, c4, c5]) rfl ⟨_, _, _, _, _, _, _, _, _, _, _, _, rfl, fun _ => ⟨rfl, hoU⟩, hbU⟩
  · rw [if_neg h0]
    unfold zeroSky
    go_wp2_with fail
    have HE' : Hid (er = er0) := by rw [HE.out]; simp [orE, h0, Hid]
    refine wp_abs_post (fun U hU => ?_)
    have gU : U.heap[w.heap.size + 1 + 1]? = some (.cells #[iv 0, iv 0, .slice none 0 0, .slice none 0 0, .slice none 0 0, iv 0] 110 (0, 0)) := by rw [hU]; exact blk_alloc (blk_set6 G2.out _ _ _ _ _ _) _
    have hbU : Below w.heap.size w U := by
      rw [hU]
      refine Below.alloc ?_ (by have := HB1.out.size; simp; omega) _
      have hbx := HB1.out
      repeat (first | (with_reducible exact hbx) | refine Below.setCell ?_ (by first | (simp; done) | (simp; omega)) _)
    clear hU c0 c1 c2 c3 c4 c5 f0 f1 f2 f3 f4 f5
    obtain ⟨c0, c1, c2, c3, c4, c5⟩ := sky_cells gU
    refine bodyPost_ret (v := .tuple #[.agg #[iv 0, iv 0, .slice none 0 0, .slice none 0 0, .slice none 0 0, iv 0], iv er]) (by rw [HE'.out]; simp [results, Tryz.results76, go_sem, c0, c1, c2, c3, c4, c5]) rfl ⟨_, _, _, _, _, _, _, _, _, _, _, _, rfl, fun h => absurd (HE'.out.symm.trans h) h0, hbU⟩
end Go.Proofs.YtjekioabkmijbaaGreatDoor
