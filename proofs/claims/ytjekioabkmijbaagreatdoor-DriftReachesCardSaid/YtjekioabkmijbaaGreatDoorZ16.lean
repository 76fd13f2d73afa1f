/- sailed. -/
import Derived.Test.YtjekioabkmijbaaGreatDoorZ08
import Derived.Test.YtjekioabkmijbaaGreatDoorZ14
import Derived.Test.YtjekioabkmijbaaGreatDoorZ15
set_option linter.unusedVariables false
set_option linter.unusedSimpArgs false
namespace Go.Proofs.YtjekioabkmijbaaGreatDoor
open Go.RowKit
theorem errNext_zero {l : List DWind} {x : DWind} (h : errNext l x = 0) : l.length < 200 ∧ windOk x = true := by
  rw [errNext_eq] at h
  split at h
  · simp at h
  · rename_i h1
    split at h
    · simp at h
    · rename_i h2
      exact ⟨by omega, by simpa using h2⟩
theorem errLogFrom_zero : ∀ (r pre : List DWind), (errLogFrom pre r).2 = 0 → (∀ x ∈ r, windOk x = true) ∧ (r ≠ [] → pre.length + r.length ≤ 200)
  | [], _, _ => ⟨fun x hx => (by cases hx), fun h => absurd rfl h⟩
  | x :: r, pre, h => by
    rw [errLogFrom] at h
    split at h
    · rename_i h0
      obtain ⟨h1, h2⟩ := errNext_zero h0
      obtain ⟨h3, h4⟩ := errLogFrom_zero r (pre ++ [x]) h
      refine ⟨fun y hy => ?_, fun _ => ?_⟩
      · rcases List.mem_cons.1 hy with rfl | hy
        · exact h2
        · exact h3 y hy
      · cases r with
        | nil => simp; omega
        | cons z r => have := h4 (by simp); simp at this ⊢; omega
    · rename_i h0
      exact absurd h h0
theorem log_winds {l : List DWind} (h : (errLog l).2 = 0) : winds l := (errLogFrom_zero l [] h).1
theorem log_len {l : List DWind} (h : (errLog l).2 = 0) : l.length ≤ 200 := by
  by_cases hl : l = []
  · subst hl; simp
  · have := (errLogFrom_zero l [] h).2 hl; simpa using this
def zeroSky : Value := .agg #[iv 0, iv 0, .slice none 0 0, .slice none 0 0, .slice none 0 0, iv 0]
def skyV (s : DSea) (f : Int) (vh vt vw : Value) : Value := .agg #[iv s.cells, iv s.bands, vh, vt, vw, iv f]
theorem orE_first (es : List Int) {k : Nat} {e : Int} (hk : es[k]? = some e) (he : e ≠ 0) (h0 : ∀ j y, j < k → es[j]? = some y → y = 0) : es.foldr orE 0 = e := by
  induction es generalizing k with
  | nil => simp at hk
  | cons y r ih =>
    cases k with
    | zero => simp at hk; subst hk; simp [orE, he]
    | succ k =>
      have hy : y = 0 := h0 0 y (by omega) rfl
      subst hy
      simp only [List.foldr_cons, orE, if_true]
      exact ih (by simpa using hk) (fun j z hj hz => h0 (j + 1) z (by omega) (by simpa using hz))
theorem orE_none (es : List Int) (h0 : ∀ (j : Nat) (y : Int), es[j]? = some y → y = 0) : es.foldr orE 0 = 0 := by
  induction es with
  | nil => rfl
  | cons y r ih =>
    have hy : y = 0 := h0 0 y rfl
    subst hy
    simp only [List.foldr_cons, orE, if_true]
    exact ih (fun j z hz => h0 (j + 1) z (by simpa using hz))
/-- What sailed gives. -/
def SailPost (s : DSea) (l : List DWind) (known : Int) (f : Int) (vh vt : Value) (er : Int) (w : World) (e : Ending) (w' : World) : Prop :=
  ∃ vw, e = .returned (.tuple #[if er = 0 then skyV s f vh vt vw else zeroSky, iv er]) ∧ (er = 0 → Own DWind.cs 9 53 w.heap.size w' vw (counting l known)) ∧ Below w.heap.size w w'
theorem info110 : (Tryz.prog.info? 110).map (fun i => (i.zero, i.size)) = some (some zeroSky, 6) := by kernel_rfl
theorem wrap_small' (x : Int) (h1 : -1000 ≤ x) (h2 : x ≤ 1000) : IntKind.i64.wrap x = x := IntWalk.i64_in x ⟨by omega, by omega⟩
theorem save_six {g : Nat} {W U : World} {a0 a1 a2 a3 a4 a5 : Value} (h : Below W.heap.size W U) : Save g W ((((((U.setCell ⟨g, 0, none⟩ a0).setCell ⟨g, 1, none⟩ a1).setCell ⟨g, 2, none⟩ a2).setCell ⟨g, 3, none⟩ a3).setCell ⟨g, 4, none⟩ a4).setCell ⟨g, 5, none⟩ a5) := fun b o hb hn =>
  ((fix_five (K := fun b => ¬ b = g) (Fix.of_below h) (fun h => h rfl) a0 a1 a2 a3 a4).setCell (p := ⟨g, 5, none⟩) (fun _ h => h rfl) a5).cell o hb hn
theorem sky_cells {W : World} {g : Nat} {t : TypeId} {f : Nat × Nat} {a0 a1 a2 a3 a4 a5 : Value} (h : W.heap[g]? = some (.cells #[a0, a1, a2, a3, a4, a5] t f)) :
    W.cell? ⟨g, 0, none⟩ = some a0 ∧ W.cell? ⟨g, 1, none⟩ = some a1 ∧ W.cell? ⟨g, 2, none⟩ = some a2 ∧ W.cell? ⟨g, 3, none⟩ = some a3 ∧ W.cell? ⟨g, 4, none⟩ = some a4 ∧ W.cell? ⟨g, 5, none⟩ = some a5 :=
  ⟨blk_cell h 0, blk_cell h 1, blk_cell h 2, blk_cell h 3, blk_cell h 4, blk_cell h 5⟩
theorem sky_frozen {W : World} {g : Nat} {A : Array Value} {t : TypeId} (h : W.heap[g]? = some (.cells A t (0, 0))) : W.frozen? ⟨g, 0, none⟩ = false ∧ W.frozen? ⟨g, 1, none⟩ = false ∧ W.frozen? ⟨g, 2, none⟩ = false ∧ W.frozen? ⟨g, 3, none⟩ = false ∧ W.frozen? ⟨g, 4, none⟩ = false ∧ W.frozen? ⟨g, 5, none⟩ = false :=
  ⟨blk_frozen h 0, blk_frozen h 1, blk_frozen h 2, blk_frozen h 3, blk_frozen h 4, blk_frozen h 5⟩
set_option maxHeartbeats 2000000 in
set_option maxRecDepth 20000 in
theorem sailed_calls (s : DSea) (l : List DWind) (xs : List DLoss) (known f : Int) (vh vt vl vx : Value) (w : World) (hf : 0 ≤ f ∧ f ≤ 255) (h1 : Sl intCs 1 w vh s.hts) (h2 : Sl DTide.cs 2 w vt s.tds) (h3 : Sl DWind.cs 9 w vl l) (h4 : Sl DLoss.cs 7 w vx xs) :
    Calls Tryz.prog 116 #[.agg #[iv s.cells, iv s.bands, vh, vt], vl, iv known, .int .u8 f, vx] w fun e w' => SailPost s l known f vh vt (errSail s l xs f) w e w' := by
  obtain ⟨A1, k1, rfl, hk1, hlk1⟩ := h1.open_
  obtain ⟨A2, k2, rfl, hk2, hlk2⟩ := h2.open_
  obtain ⟨A3, c3, rfl, hc3, hl3⟩ := h3.open_
  obtain ⟨A4, c4, rfl, hc4, hl4⟩ := h4.open_
  have H1 := Lib.hid h1
  have H2 := Lib.hid h2
  have H3 := Lib.hid h3
  have H4 := Lib.hid h4
  have HE : Hid (errSail s l xs f = orE (errSea s) (orE (errLog l).2 (orE ((xs.map (errLoss s)).foldr orE 0) (if f = 1 ∨ f = 2 then 0 else 1)))) := rfl
  generalize errSail s l xs f = er at HE ⊢
  clear h1 h2 h3 h4
  go_enter Tryz.func116, Tryz.ntmps116
  go_wp2_with fail
  refine calls_abs (fun W hW => ?_)
  have g0 : W.heap[w.heap.size]? = some (.cells #[iv s.cells, iv s.bands, .slice A1 s.hts.length k1, .slice A2 s.tds.length k2] 25 (0, 0)) := by rw [hW]; exact blk_alloc (blk_new _ _) _
  have g1 : W.heap[w.heap.size + 1]? = some (.cells #[iv 0, iv 0, .slice none 0 0, .slice none 0 0, .slice none 0 0, iv 0] 110 (0, 0)) := by rw [hW]; exact blk_at _ (by simp)
  have hB : Below w.heap.size w W := by rw [hW]; exact bl_alloc (bl_alloc (Below.refl _ _) _) _
  clear hW
  refine (checkSea_calls s _ _ W (H1.out.below hB) (H2.out.below hB)).mono ?_
  rintro e w1 ⟨rfl, hb1⟩
  have HB1 := Lib.hid (bl_step hB hb1)
  have G0 := Lib.hid (blk_below g0 hb1)
  have G1 := Lib.hid (blk_below g1 hb1)
  clear g0 g1 hB hb1
  cases hs : seaOk s with
  | false =>
    have he : errSea s = 1 := by unfold errSea; rw [hs]; rfl
    have HE' : Hid (er = 1) := by rw [HE.out, he]; rfl
    rw [he]
    obtain ⟨c0, c1, c2, c3', c4', c5⟩ := sky_cells G1.out
    obtain ⟨f0, f1, f2, f3, f4, f5⟩ := sky_frozen G1.out
    go_wp2_with fail
    refine bodyPost_ret (v := .tuple #[zeroSky, iv er]) (by rw [HE'.out]; simp [results, Tryz.results116, go_sem, c0, c1, c2, c3', c4', c5, zeroSky]) rfl ⟨.slice none 0 0, by rw [if_neg (by rw [HE'.out]; decide)], fun h => (by rw [HE'.out] at h; cases h), ?_⟩
    have hbx := HB1.out
    repeat (first | (with_reducible exact hbx) | refine Below.setCell ?_ (by first | (simp; done) | (simp; omega)) _)
  | true =>
    have he : errSea s = 0 := by unfold errSea; rw [hs]; rfl
    rw [he] at HE ⊢
    clear he
    go_wp2_with fail
    refine (check_calls l _ w1 (H3.out.below HB1.out)).mono ?_
    rintro e w2 ⟨rfl, hb2⟩
    have HB2 := Lib.hid (bl_step HB1.out hb2)
    have G0_2 := Lib.hid (blk_below G0.out hb2)
    have G1_2 := Lib.hid (blk_below G1.out hb2)
    clear hb2
    obtain ⟨el1, hel1⟩ : ∃ q, q = (errLog l).1 := ⟨_, rfl⟩
    obtain ⟨el2, hel2⟩ : ∃ q, q = (errLog l).2 := ⟨_, rfl⟩
    rw [← hel1, ← hel2]
    rw [← hel2] at HE
    have HEL := Lib.hid hel2
    clear hel1 hel2
    by_cases h0 : el2 = 0
    rotate_left
    · have HE' : Hid (er = el2) := by rw [HE.out]; simp [orE, h0, Hid]
      have HNZ := Lib.hid h0
      have h0' : (el2 != 0) = true := by simp [bne, h0]
      obtain ⟨c0, c1, c2, c3', c4', c5⟩ := sky_cells G1_2.out
      obtain ⟨f0, f1, f2, f3, f4, f5⟩ := sky_frozen G1_2.out
      go_wp2_with fail
      refine bodyPost_ret (v := .tuple #[zeroSky, iv er]) (by rw [HE'.out]; simp [results, Tryz.results116, go_sem, c0, c1, c2, c3', c4', c5, zeroSky]) rfl ⟨.slice none 0 0, by rw [if_neg (by rw [HE'.out]; exact HNZ.out)], fun h => (by rw [HE'.out] at h; exact absurd h HNZ.out), ?_⟩
      have hbx := HB2.out
      repeat (first | (with_reducible exact hbx) | refine Below.setCell ?_ (by first | (simp; done) | (simp; omega)) _)
    subst h0
    have HWI : Hid (winds l) := log_winds HEL.out.symm
    have HLL : Hid (l.length ≤ 200) := log_len HEL.out.symm
    go_wp2_with fail
    go_loopg [35] xs.length (fun n i wr => ∃ k : Nat, k ≤ xs.length ∧ n = xs.length - k ∧ i = .int .i64 k ∧ Hid (wr.heap[w.heap.size]? = some (.cells #[iv s.cells, iv s.bands, .slice A1 s.hts.length k1, .slice A2 s.tds.length k2] 25 (0, 0))) ∧ Hid (wr.heap[w.heap.size + 1]? = some (.cells #[iv 0, iv 0, .slice none 0 0, .slice none 0 0, .slice none 0 0, iv 0] 110 (0, 0))) ∧ Hid (Below w.heap.size w wr) ∧ Hid (∀ (j : Nat) (y : Int), j < k → (xs.map (errLoss s))[j]? = some y → y = 0))
    case atStart => exact ⟨0, by omega, by omega, rfl, G0_2.out, G1_2.out, HB2.out, fun j y hj => by omega⟩
    case round =>
      clear G0 G1 G0_2 G1_2 HB1 HB2
      obtain ⟨k, hk, hn, rfl, G0, G1, HB, HF⟩ := hrel
      have g0 := blk_cell G0.out 0
      have g1 := blk_cell G0.out 1
      have g2 := blk_cell G0.out 2
      have g3 := blk_cell G0.out 3
      simp only [List.getElem?_toArray, List.getElem?_cons_zero, List.getElem?_cons_succ] at g0 g1 g2 g3
      have l0 := blk_lt G0.out
      have l1 := blk_lt G1.out
      by_cases hlt : k < xs.length
      · have hx : xs[k]? = some xs[k] := List.getElem?_eq_getElem hlt
        obtain ⟨x, hxe⟩ : ∃ x, x = xs[k] := ⟨_, rfl⟩
        rw [← hxe] at hx
        clear hxe
        obtain ⟨b, o, rfl, d0, d1, d2, d3, d4, d5, d6⟩ := (H4.out.below HB.out).loss k _ hx
        have hm : (xs.map (errLoss s))[k]? = some (errLoss s x) := by rw [List.getElem?_map, hx]; rfl
        have hba := bl_alloc (Below.refl wr.heap.size wr) (.cells (lossA x) 30)
        have HC := Lib.hid (checkLoss_calls s _ _ x _ ((H1.out.below HB.out).below hba) ((H2.out.below HB.out).below hba))
        have HBA := Lib.hid hba
        have HM := Lib.hid hm
        clear hm hx hba
        go_wp2_with fail
        refine HC.out.mono ?_
        rintro e w3 ⟨rfl, hb3⟩
        have hb4 := bl_step HBA.out hb3
        have HB3 := Lib.hid (bl_step HB.out hb4)
        have G0_3 := Lib.hid (blk_below G0.out hb4)
        have G1_3 := Lib.hid (blk_below G1.out hb4)
        obtain ⟨ex, hex⟩ : ∃ q, q = errLoss s x := ⟨_, rfl⟩
        rw [← hex] at HM ⊢
        clear hb3 hb4 hex d0 d1 d2 d3 d4 d5 d6 g0 g1 g2 g3
        by_cases h0 : ex = 0
        · subst h0
          go_wp2_with fail
          go_roundg (xs.length - (k + 1))
          case measure => omega
          case rel => exact ⟨k + 1, by omega, rfl, by go_num, G0_3.out, G1_3.out, HB3.out, fun j y hj hy => by
            rcases Nat.lt_or_ge j k with h | h
            · exact HF.out j y h hy
            · obtain rfl : j = k := by omega
              rw [HM.out] at hy
              cases hy
              rfl⟩
        · have HNZ := Lib.hid h0
          have HE' : Hid (er = ex) := by rw [HE.out, orE_first _ HM.out h0 HF.out]; simp [orE, h0, Hid]
          have h0' : (ex != 0) = true := by simp [bne, h0]
          obtain ⟨c0, c1, c2, c3', c4', c5⟩ := sky_cells G1_3.out
          obtain ⟨f0, f1, f2, f3, f4, f5⟩ := sky_frozen G1_3.out
          go_wp2_with fail
          refine bodyPost_ret (v := .tuple #[zeroSky, iv er]) (by rw [HE'.out]; simp [results, Tryz.results116, go_sem, c0, c1, c2, c3', c4', c5, zeroSky]) rfl ⟨.slice none 0 0, by rw [if_neg (by rw [HE'.out]; exact HNZ.out)], fun h => (by rw [HE'.out] at h; exact absurd h HNZ.out), ?_⟩
          have hbx := HB3.out
          repeat (first | (with_reducible exact hbx) | refine Below.setCell ?_ (by first | (simp; done) | (simp; omega)) _)
      · obtain rfl : k = xs.length := by omega
        have hall : (xs.map (errLoss s)).foldr orE 0 = 0 := orE_none _ (fun j y hy => HF.out j y (by have := (List.getElem?_eq_some_iff.1 hy).1; simpa using this) hy)
        have HE2 : Hid (er = if f = 1 ∨ f = 2 then 0 else 1) := by rw [HE.out, hall]; simp [orE, Hid]
        clear hall HF HE hn hk hlt
        by_cases hf12 : f = 1 ∨ f = 2
        rotate_left
        · have HE' : Hid (er = 1) := by rw [HE2.out, if_neg hf12]; rfl
          have HNZ : Hid (¬ (1 : Int) = 0) := by unfold Hid; decide
          have hf1 : (f != 1) = true := by simp [bne]; omega
          have hf2 : (f != 2) = true := by simp [bne]; omega
          obtain ⟨c0, c1, c2, c3', c4', c5⟩ := sky_cells G1.out
          obtain ⟨f0, f1, f2, f3, f4, f5⟩ := sky_frozen G1.out
          go_wp2_with fail
          refine bodyPost_ret (v := .tuple #[zeroSky, iv er]) (by rw [HE'.out]; simp [results, Tryz.results116, go_sem, c0, c1, c2, c3', c4', c5, zeroSky]) rfl ⟨.slice none 0 0, by rw [if_neg (by rw [HE'.out]; exact HNZ.out)], fun h => (by rw [HE'.out] at h; exact absurd h HNZ.out), ?_⟩
          have hbx := HB.out
          repeat (first | (with_reducible exact hbx) | refine Below.setCell ?_ (by first | (simp; done) | (simp; omega)) _)
        · have HE' : Hid (er = 0) := by rw [HE2.out, if_pos hf12]; rfl
          have HFL : Hid (f = 1 ∨ f = 2) := hf12
          have HCO := Lib.hid (counting_calls l _ known wr.drew (by have := HLL.out; omega) ((H3.out.below HB.out).below (Below.refl _ _).drew) HWI.out)
          have n0 : ¬ w.heap.size = w.heap.size + 1 := by omega
          clear hf12
          rcases HFL.out with rfl | rfl
          · go_wp2_with fail
            refine wp_region_held_drew (S := Save (w.heap.size + 1) wr) (by kernel_rfl) (fun _ _ _ _ => rfl) (fun hHeld => ?_)
            refine wpAnyH_take (i := 0) (v := .agg #[iv s.cells, iv s.bands, .slice A1 s.hts.length k1, .slice A2 s.tds.length k2]) rfl (by kernel_rfl) (by kernel_rfl) (by kernel_rfl) (fun _ _ _ h => h) (Or.inl ⟨by rfl, ?_⟩) (by assumption) ?_
            · intro U hSw; (try dsimp only at hSw); (try unfold Save at hSw); go_simp
            try simp only [Act.put, List.setIfInBounds_toArray, List.set_cons_zero, List.set_cons_succ]
            refine wpAnyH_take (i := 1) (v := .slice A3 l.length c3) rfl (by kernel_rfl) (by kernel_rfl) (by kernel_rfl) (fun _ _ _ h => h) (Or.inl ⟨by rfl, ?_⟩) (by assumption) ?_
            · intro U hSw; (try dsimp only at hSw); (try unfold Save at hSw); go_simp
            try simp only [Act.put, List.setIfInBounds_toArray, List.set_cons_zero, List.set_cons_succ]
            refine wpAnyH_take (i := 2) (v := iv known) rfl (by kernel_rfl) (by kernel_rfl) (by kernel_rfl) (fun _ _ _ h => h) (Or.inl ⟨by rfl, ?_⟩) (by assumption) ?_
            · intro U hSw; (try dsimp only at hSw); (try unfold Save at hSw); go_simp
            try simp only [Act.put, List.setIfInBounds_toArray, List.set_cons_zero, List.set_cons_succ]
            refine wpAnyH_take (i := 4) (v := .int .u8 1) rfl (by kernel_rfl) (by kernel_rfl) (by kernel_rfl) (fun _ _ _ h => h) (Or.inl ⟨by rfl, ?_⟩) (by assumption) ?_
            · intro U hSw; (try dsimp only at hSw); (try unfold Save at hSw); go_simp
            try simp only [Act.put, List.setIfInBounds_toArray, List.set_cons_zero, List.set_cons_succ]
            refine wpAnyH_take (i := 5) (v := iv 1) rfl (by kernel_rfl) (by kernel_rfl) (by kernel_rfl) (fun _ _ _ h => h) (Or.inl ⟨by rfl, ?_⟩) (by assumption) ?_
            · intro U hSw; (try dsimp only at hSw); (try unfold Save at hSw); go_simp; exact wrap_small' _ (by decide) (by decide)
            try simp only [Act.put, List.setIfInBounds_toArray, List.set_cons_zero, List.set_cons_succ]
            refine wpAnyH_ready (rs := [3]) (by kernel_rfl) (by simp) ?_
            refine AllReadyH.cons rfl (fun K' hK' => ?_) AllReadyH.nil
            go_simp
            refine HCO.out.mono ?_
            rintro e w4 ⟨v', rfl, ho4, hb4'⟩
            have hb4 : Below wr.heap.size wr w4 := (Below.refl wr.heap.size wr).drew.trans hb4'
            obtain ⟨A', cc', rfl⟩ := ho4.slice
            refine hK'.out _ _ (save_below hb4) (fun hHeld => ?_)
            have HO4 := Lib.hid ho4
            clear hK' K' ho4 hb4'
            try simp only [Act.put, List.setIfInBounds_toArray, List.set_cons_zero, List.set_cons_succ]
            refine wpAnyH_ready (rs := [6]) (by kernel_rfl) (by simp) ?_
            refine AllReadyH.cons rfl (fun K' hK' => ?_) AllReadyH.nil
            go_simp
            refine hK'.out _ _ (save_below hb4) (fun hHeld => ?_)
            clear hK' K'
            try simp only [Act.put, List.setIfInBounds_toArray, List.set_cons_zero, List.set_cons_succ]
            have HB4 := Lib.hid hb4
            have hg4 := blk_below G1.out hb4
            have HG4 := Lib.hid hg4
            clear g0 g1 g2 g3
            obtain ⟨f0, f1, f2, f3, f4, f5⟩ := sky_frozen hg4
            obtain ⟨c0, c1, c2, c3', c4', c5⟩ := sky_cells hg4
            clear hg4
            refine wpAnyH_ready (rs := [7]) (by kernel_rfl) (by simp) ?_
            refine AllReadyH.cons rfl (fun K' hK' => ?_) AllReadyH.nil
            go_simp
            refine hK'.out _ _ (save_six HB4.out) (fun hHeld => ?_)
            clear hK' K'
            try simp only [Act.put, List.setIfInBounds_toArray, List.set_cons_zero, List.set_cons_succ]
            refine wpAnyH_ready (rs := [8]) (by kernel_rfl) (by simp) ?_
            refine AllReadyH.cons rfl (fun K' hK' => ?_) AllReadyH.nil
            go_simp
            refine hK'.out _ _ (save_six HB4.out) (fun hHeld => ?_)
            clear hK' K'
            try simp only [Act.put, List.setIfInBounds_toArray, List.set_cons_zero, List.set_cons_succ]
            refine wpAnyH_done (by kernel_rfl) ?_ _
            go_wp2_with fail
            refine bodyPost_ret (v := .tuple #[skyV s 1 (.slice A1 s.hts.length k1) (.slice A2 s.tds.length k2) (.slice A' (counting l known).length cc'), iv er]) (by rw [HE'.out]; simp [results, Tryz.results116, go_sem, c0, c1, c2, c3', c4', c5, skyV]) rfl ⟨.slice A' (counting l known).length cc', by rw [if_pos HE'.out], fun _ => ?_, ?_⟩
            · have ho := HO4.out.mono (base' := w.heap.size) HB.out.size
              have hne : ∀ i, (Value.slice A' (counting l known).length cc').ownBlock ≠ some (⟨w.heap.size + 1, i, none⟩ : Addr).block := fun i h => by
                have := (HO4.out.lt _ h).1
                simp at this; omega
              exact (((((ho.set (hne 0) _).set (hne 1) _).set (hne 2) _).set (hne 3) _).set (hne 4) _).set (hne 5) _
            · have hbx := bl_step HB.out HB4.out
              repeat (first | (with_reducible exact hbx) | refine Below.setCell ?_ (by first | (simp; done) | (simp; omega)) _)
          · go_wp2_with fail
            refine wp_region_held_drew (S := Save (w.heap.size + 1) wr) (by kernel_rfl) (fun _ _ _ _ => rfl) (fun hHeld => ?_)
            refine wpAnyH_take (i := 0) (v := .agg #[iv s.cells, iv s.bands, .slice A1 s.hts.length k1, .slice A2 s.tds.length k2]) rfl (by kernel_rfl) (by kernel_rfl) (by kernel_rfl) (fun _ _ _ h => h) (Or.inl ⟨by rfl, ?_⟩) (by assumption) ?_
            · intro U hSw; (try dsimp only at hSw); (try unfold Save at hSw); go_simp
            try simp only [Act.put, List.setIfInBounds_toArray, List.set_cons_zero, List.set_cons_succ]
            refine wpAnyH_take (i := 1) (v := .slice A3 l.length c3) rfl (by kernel_rfl) (by kernel_rfl) (by kernel_rfl) (fun _ _ _ h => h) (Or.inl ⟨by rfl, ?_⟩) (by assumption) ?_
            · intro U hSw; (try dsimp only at hSw); (try unfold Save at hSw); go_simp
            try simp only [Act.put, List.setIfInBounds_toArray, List.set_cons_zero, List.set_cons_succ]
            refine wpAnyH_take (i := 2) (v := iv known) rfl (by kernel_rfl) (by kernel_rfl) (by kernel_rfl) (fun _ _ _ h => h) (Or.inl ⟨by rfl, ?_⟩) (by assumption) ?_
            · intro U hSw; (try dsimp only at hSw); (try unfold Save at hSw); go_simp
            try simp only [Act.put, List.setIfInBounds_toArray, List.set_cons_zero, List.set_cons_succ]
            refine wpAnyH_take (i := 4) (v := .int .u8 2) rfl (by kernel_rfl) (by kernel_rfl) (by kernel_rfl) (fun _ _ _ h => h) (Or.inl ⟨by rfl, ?_⟩) (by assumption) ?_
            · intro U hSw; (try dsimp only at hSw); (try unfold Save at hSw); go_simp
            try simp only [Act.put, List.setIfInBounds_toArray, List.set_cons_zero, List.set_cons_succ]
            refine wpAnyH_take (i := 5) (v := iv 2) rfl (by kernel_rfl) (by kernel_rfl) (by kernel_rfl) (fun _ _ _ h => h) (Or.inl ⟨by rfl, ?_⟩) (by assumption) ?_
            · intro U hSw; (try dsimp only at hSw); (try unfold Save at hSw); go_simp; exact wrap_small' _ (by decide) (by decide)
            try simp only [Act.put, List.setIfInBounds_toArray, List.set_cons_zero, List.set_cons_succ]
            refine wpAnyH_ready (rs := [3]) (by kernel_rfl) (by simp) ?_
            refine AllReadyH.cons rfl (fun K' hK' => ?_) AllReadyH.nil
            go_simp
            refine HCO.out.mono ?_
            rintro e w4 ⟨v', rfl, ho4, hb4'⟩
            have hb4 : Below wr.heap.size wr w4 := (Below.refl wr.heap.size wr).drew.trans hb4'
            obtain ⟨A', cc', rfl⟩ := ho4.slice
            refine hK'.out _ _ (save_below hb4) (fun hHeld => ?_)
            have HO4 := Lib.hid ho4
            clear hK' K' ho4 hb4'
            try simp only [Act.put, List.setIfInBounds_toArray, List.set_cons_zero, List.set_cons_succ]
            refine wpAnyH_ready (rs := [6]) (by kernel_rfl) (by simp) ?_
            refine AllReadyH.cons rfl (fun K' hK' => ?_) AllReadyH.nil
            go_simp
            refine hK'.out _ _ (save_below hb4) (fun hHeld => ?_)
            clear hK' K'
            try simp only [Act.put, List.setIfInBounds_toArray, List.set_cons_zero, List.set_cons_succ]
            have HB4 := Lib.hid hb4
            have hg4 := blk_below G1.out hb4
            have HG4 := Lib.hid hg4
            clear g0 g1 g2 g3
            obtain ⟨f0, f1, f2, f3, f4, f5⟩ := sky_frozen hg4
            obtain ⟨c0, c1, c2, c3', c4', c5⟩ := sky_cells hg4
            clear hg4
            refine wpAnyH_ready (rs := [7]) (by kernel_rfl) (by simp) ?_
            refine AllReadyH.cons rfl (fun K' hK' => ?_) AllReadyH.nil
            go_simp
            refine hK'.out _ _ (save_six HB4.out) (fun hHeld => ?_)
            clear hK' K'
            try simp only [Act.put, List.setIfInBounds_toArray, List.set_cons_zero, List.set_cons_succ]
            refine wpAnyH_ready (rs := [8]) (by kernel_rfl) (by simp) ?_
            refine AllReadyH.cons rfl (fun K' hK' => ?_) AllReadyH.nil
            go_simp
            refine hK'.out _ _ (save_six HB4.out) (fun hHeld => ?_)
            clear hK' K'
            try simp only [Act.put, List.setIfInBounds_toArray, List.set_cons_zero, List.set_cons_succ]
            refine wpAnyH_done (by kernel_rfl) ?_ _
            go_wp2_with fail
            refine bodyPost_ret (v := .tuple #[skyV s 2 (.slice A1 s.hts.length k1) (.slice A2 s.tds.length k2) (.slice A' (counting l known).length cc'), iv er]) (by rw [HE'.out]; simp [results, Tryz.results116, go_sem, c0, c1, c2, c3', c4', c5, skyV]) rfl ⟨.slice A' (counting l known).length cc', by rw [if_pos HE'.out], fun _ => ?_, ?_⟩
            · have ho := HO4.out.mono (base' := w.heap.size) HB.out.size
              have hne : ∀ i, (Value.slice A' (counting l known).length cc').ownBlock ≠ some (⟨w.heap.size + 1, i, none⟩ : Addr).block := fun i h => by
                have := (HO4.out.lt _ h).1
                simp at this; omega
              exact (((((ho.set (hne 0) _).set (hne 1) _).set (hne 2) _).set (hne 3) _).set (hne 4) _).set (hne 5) _
            · have hbx := bl_step HB.out HB4.out
              repeat (first | (with_reducible exact hbx) | refine Below.setCell ?_ (by first | (simp; done) | (simp; omega)) _)
end Go.Proofs.YtjekioabkmijbaaGreatDoor
