
import Derived.Test.YtjekioabkmijbaaGreatDoorZ11
import Derived.Test.YtjekioabkmijbaaGreatDoorZ08
import Derived.Test.YtjekioabkmijbaaGreatDoorZ06
set_option linter.unusedVariables false
set_option linter.unusedSimpArgs false
namespace Go.Proofs.YtjekioabkmijbaaGreatDoor
open Go.RowKit Go.Shelf
attribute [local go_sem] Oper.semAt_some
def skyA (s : DSea) (f : Int) (vh vt vw : Value) : Array Value := #[iv s.cells, iv s.bands, vh, vt, vw, iv f]
def nextTo (s : DSea) (ws : List DWind) (f h : Int) (pre : List DPlace) : Nat := pre.foldl (fun acc p => acc ||| movesM s ws f p h) 0
theorem nextTo_snoc (s : DSea) (ws : List DWind) (f h : Int) (pre : List DPlace) (x : DPlace) : nextTo s ws f h (pre ++ [x]) = nextTo s ws f h pre ||| movesM s ws f x h := by simp [nextTo]
def NextAt (s : DSea) (ws : List DWind) (f h : Int) (vh vt vw : Value) (w : World) (pre : List DPlace) (V : World) : Prop :=
  V.heap[w.heap.size]? = some (.cells (skyA s f vh vt vw) 110 (0, 0)) ∧ V.heap[w.heap.size + 1 + 1]? = some (.cells #[iv h] 3 (0, 0)) ∧ V.heap[w.heap.size + 1 + 1 + 1]? = some (.cells (setA 0) 115 (0, 0)) ∧ V.heap[w.heap.size + 1 + 1 + 1 + 1]? = some (.cells (setA (nextTo s ws f h pre)) 115 (0, 0)) ∧ Below w.heap.size w V
def Save (g : Nat) (W U : World) : Prop := ∀ b o, b < W.heap.size → ¬ b = g → U.cell? ⟨b, o, none⟩ = W.cell? ⟨b, o, none⟩
theorem save_below {g : Nat} {W U : World} (h : Below W.heap.size W U) : Save g W U := fun b o hb _ => h.cell hb
theorem Fix.cell {K : Nat → Prop} {A B : World} (h : Fix K A B) {b : Nat} (o : Nat) (hb : b < A.heap.size) (hk : K b) : B.cell? ⟨b, o, none⟩ = A.cell? ⟨b, o, none⟩ := by
  have := h.block b hb hk
  simp only [World.cell?, this]
theorem fix_five {K : Nat → Prop} {A B : World} (h : Fix K A B) {g : Nat} (hg : ¬ K g) (a0 a1 a2 a3 a4 : Value) : Fix K A (((((B.setCell ⟨g, 0, none⟩ a0).setCell ⟨g, 1, none⟩ a1).setCell ⟨g, 2, none⟩ a2).setCell ⟨g, 3, none⟩ a3).setCell ⟨g, 4, none⟩ a4) :=
  ((((h.setCell (p := ⟨g, 0, none⟩) (fun _ => hg) _).setCell (p := ⟨g, 1, none⟩) (fun _ => hg) _).setCell (p := ⟨g, 2, none⟩) (fun _ => hg) _).setCell (p := ⟨g, 3, none⟩) (fun _ => hg) _).setCell (p := ⟨g, 4, none⟩) (fun _ => hg) _
theorem save_five {g : Nat} {W U : World} {a0 a1 a2 a3 a4 : Value} (h : Below W.heap.size W U) : Save g W (((((U.setCell ⟨g, 0, none⟩ a0).setCell ⟨g, 1, none⟩ a1).setCell ⟨g, 2, none⟩ a2).setCell ⟨g, 3, none⟩ a3).setCell ⟨g, 4, none⟩ a4) := fun b o hb hn =>
  (fix_five (K := fun b => ¬ b = g) (Fix.of_below h) (fun h => h rfl) a0 a1 a2 a3 a4).cell o hb hn
theorem next_fin {s : DSea} {ws : List DWind} {f h : Int} {vh vt vw : Value} {w W W2 W4 : World} {pre : List DPlace} {x : DPlace} (hz : W.heap.size = w.heap.size + 1 + 1 + 1 + 1 + 1) (hN : NextAt s ws f h vh vt vw w pre W2) (hb : Below W2.heap.size W2 W4) {U : World}
    (hU : U = (((((W4.setCell ⟨w.heap.size + 1 + 1 + 1 + 1, 0, none⟩ (.int .u64 (wd (nextTo s ws f h pre ||| movesM s ws f x h) 0))).setCell ⟨w.heap.size + 1 + 1 + 1 + 1, 1, none⟩ (.int .u64 (wd (nextTo s ws f h pre ||| movesM s ws f x h) 1))).setCell ⟨w.heap.size + 1 + 1 + 1 + 1, 2, none⟩ (.int .u64 (wd (nextTo s ws f h pre ||| movesM s ws f x h) 2))).setCell ⟨w.heap.size + 1 + 1 + 1 + 1, 3, none⟩ (.int .u64 (wd (nextTo s ws f h pre ||| movesM s ws f x h) 3))).setCell ⟨w.heap.size + 1 + 1 + 1 + 1, 4, none⟩ (.int .u64 (wd (nextTo s ws f h pre ||| movesM s ws f x h) 4)))) :
    NextAt s ws f h vh vt vw w (pre ++ [x]) U ∧ Fix (fun b => W.heap.size ≤ b ∨ False) W2 U := by
  obtain ⟨h1, h2, h3, h4, h5⟩ := hN
  have hs := blk_lt h4
  have hF : Fix (fun b => ¬ b = w.heap.size + 1 + 1 + 1 + 1) W2 U := by rw [hU]; exact fix_five (Fix.of_below hb) (fun h => h rfl) _ _ _ _ _
  refine ⟨⟨hF.blk h1 (by omega), hF.blk h2 (by omega), hF.blk h3 (by omega), ?_, ?_⟩, hF.mono fun b _ h => by rcases h with h | h; omega; exact h.elim⟩
  · rw [hU, nextTo_snoc]; exact blk_set5 (blk_below h4 hb) _ _ _ _ _
  · exact ⟨hF.os.trans h5.os, hF.tape.trans h5.tape, hF.output.trans h5.output, Nat.le_trans h5.size hF.size, fun b hb' => (hF.block b (by omega) (by omega)).trans (h5.block b hb')⟩
set_option maxHeartbeats 1000000 in
set_option maxRecDepth 20000 in
theorem next_calls (s : DSea) (ws : List DWind) (f : Int) (vh vt vw : Value) (m : Nat) (h : Int) (w : World) (hk : Sky s ws f vh vt vw w) (hm : ∀ p ∈ placesOf m, placeOk s p = true) (hh : 0 ≤ h ∧ h ≤ 2000000) :
    Calls Tryz.prog 136 #[.agg #[iv s.cells, iv s.bands, vh, vt, vw, iv f], setV m, iv h] w fun e w' => e = .returned (setV (nextM s ws f m h)) ∧ Below w.heap.size w w' := by
  have hF : ∀ f, Fence.wide.fn f := fun _ => trivial
  have hD : Fence.wide.depth = none := rfl
  have HK := Lib.hid hk
  have HH := Lib.hid hh
  have HM := Lib.hid hm
  clear hk hh hm
  rw [setV_arr m, setA]
  refine callsW.1 (callsIn_of_wp_marks (F := FW none) (n := 0) Tryz.func136 rfl trivial (wpIn_wide.2 ?_))
  simp only [Tryz.ntmps136, List.size_toArray, List.length_cons, List.length_nil, Nat.reduceAdd, Nat.reduceSub, Array.replicate_succ, Array.replicate_zero, List.push_toArray, List.append_toArray, List.nil_append, List.cons_append]
  go_wp2_with fail
  refine wp_abs (fun W hW => ?_)
  have b0 : NextAt s ws f h vh vt vw w [] W := by
    unfold NextAt; rw [hW, show nextTo s ws f h [] = 0 from rfl]; rw [setA_zero]
    exact ⟨blk_alloc (blk_alloc (blk_alloc (blk_alloc (blk_new _ _) _) _) _) _, blk_alloc (blk_alloc (blk_at _ (by simp)) _) _, blk_alloc (blk_at _ (by simp)) _, blk_at _ (by simp), bl_alloc (bl_alloc (bl_alloc (bl_alloc (bl_alloc (Below.refl _ _) _) _) _) _) _⟩
  have hsz : W.heap.size = w.heap.size + 1 + 1 + 1 + 1 + 1 := by rw [hW]; simp
  clear hW
  have HZ := Lib.hid hsz
  clear hsz
  refine wp_iter0s (α := DPlace) (callsAs_method (enters_of Tryz.func82 (by kernel_rfl) rfl)) (all_iter m w) (K := fun _ => False) (w0 := w) (Fix.of_below b0.2.2.2.2) (fun x => rfl) (fun b h => h.elim)
    (fun pre V => NextAt s ws f h vh vt vw w pre V)
    (fun cd pre V => False)
    ?_ (fun cd pre V V' h1 _ h2 => h1) b0 ?_ ?_ ?_
  · rintro pre V V' ⟨h1, h2, h3, h4, h5⟩ _ hf
    have hz := HZ.out
    exact ⟨hf.blk h1 (by omega), hf.blk h2 (by omega), hf.blk h3 (by omega), hf.blk h4 (by omega), bl_fix h5 (Nat.le_refl _) (by omega) hf⟩
  · rintro lp pre x V hlp1 hlp2 hVs hN hx hK
    gi_wp2
    refine ⟨bl_alloc (Below.refl _ _) _, fun W2 hf2 hs2 => ?_⟩
    have hz := HZ.out
    obtain ⟨h1, h2, h3, h4, h5⟩ := hN
    have d0 : W2.heap[w.heap.size]? = _ := hf2.blk (blk_alloc h1 _) (by omega)
    have d1 : W2.heap[w.heap.size + 1 + 1]? = _ := hf2.blk (blk_alloc h2 _) (by omega)
    have d2 : W2.heap[w.heap.size + 1 + 1 + 1]? = _ := hf2.blk (blk_alloc h3 _) (by omega)
    have d3 : W2.heap[w.heap.size + 1 + 1 + 1 + 1]? = _ := hf2.blk (blk_alloc h4 _) (by omega)
    have d4 : W2.heap[V.heap.size]? = some (.cells #[iv x.c, iv x.b] 48 (0, 0)) := hf2.blk (blk_new _ _) (by omega)
    have hB2 : Below w.heap.size w W2 := bl_fix (bl_alloc h5 _) (Nat.le_refl _) (N := lp) (by omega) (hf2.mono fun b _ hb => by omega)
    have hsz : w.heap.size + 1 + 1 + 1 + 1 < W2.heap.size := blk_lt d3
    have hxm : x ∈ placesOf m := by
      obtain ⟨t, ht⟩ := hx; rw [← ht]; simp
    have hpx : placeOk s x = true := HM.out x hxm
    have c0 := blk_cell d0 0
    have c1 := blk_cell d0 1
    have c2 := blk_cell d0 2
    have c3 := blk_cell d0 3
    have c4 := blk_cell d0 4
    have c5 := blk_cell d0 5
    have c6 := blk_cell d1 0
    have c7 := blk_cell d4 0
    have c8 := blk_cell d4 1
    simp only [skyA, List.getElem?_toArray, List.getElem?_cons_zero, List.getElem?_cons_succ] at c0 c1 c2 c3 c4 c5 c6 c7 c8
    have n1 : ¬ V.heap.size = w.heap.size + 1 + 1 + 1 + 1 := by omega
    have HN2 : Hid (NextAt s ws f h vh vt vw w pre W2) := ⟨d0, d1, d2, d3, hB2⟩
    obtain ⟨e0, e1, e2, e3, e4⟩ := set_cells d3
    obtain ⟨f0, f1, f2, f3, f4⟩ := five_frozen d3
    have D0 := Lib.hid d0
    have D1 := Lib.hid d1
    have D2 := Lib.hid d2
    have D3 := Lib.hid d3
    have HB2 := Lib.hid hB2
    have HPX := Lib.hid hpx
    have z0 : w.heap.size < W2.heap.size := by omega
    have z1 : w.heap.size + 1 + 1 < W2.heap.size := by omega
    have z4 := blk_lt d4
    clear d0 d1 d2 d3 d4 h1 h2 h3 h4 h5 hf2 hs2 hB2 hpx hxm hx hK hlp1 hlp2 hVs hz
    gi_wp2
    have n0 : ¬ w.heap.size = w.heap.size + 1 + 1 + 1 + 1 := by omega
    refine region_round (Save (w.heap.size + 1 + 1 + 1 + 1) W2) (by kernel_rfl) (by simp) (by rintro ⟨_, _, h⟩; exact h) (fun _ _ _ _ => rfl) (fun hHeld => ?_)
    refine wpAnyH_take (i := 1) (v := .agg #[iv s.cells, iv s.bands, vh, vt, vw, iv f]) rfl (by kernel_rfl) (by kernel_rfl) (by kernel_rfl) (fun _ _ _ h => h) (Or.inl ⟨by rfl, ?_⟩) (by assumption) ?_
    · intro U hSw; (try dsimp only at hSw); (try unfold Save at hSw); go_simp
    try simp only [Act.put, List.setIfInBounds_toArray, List.set_cons_zero, List.set_cons_succ]
    refine wpAnyH_take (i := 2) (v := placeV x) rfl (by kernel_rfl) (by kernel_rfl) (by kernel_rfl) (fun _ _ _ h => h) (Or.inl ⟨by rfl, ?_⟩) (by assumption) ?_
    · intro U hSw; (try dsimp only at hSw); (try unfold Save at hSw); go_simp
    try simp only [Act.put, List.setIfInBounds_toArray, List.set_cons_zero, List.set_cons_succ]
    refine wpAnyH_take (i := 3) (v := iv h) rfl (by kernel_rfl) (by kernel_rfl) (by kernel_rfl) (fun _ _ _ h => h) (Or.inl ⟨by rfl, ?_⟩) (by assumption) ?_
    · intro U hSw; (try dsimp only at hSw); (try unfold Save at hSw); go_simp
    try simp only [Act.put, List.setIfInBounds_toArray, List.set_cons_zero, List.set_cons_succ]
    refine wpAnyH_ready (rs := [0, 4]) (by kernel_rfl) (by simp) ?_
    refine AllReadyH.cons rfl (fun K hK => ?_) (AllReadyH.cons rfl (fun K hK => ?_) AllReadyH.nil)
    · go_simp
      refine hK.out _ _ hHeld (fun hHeld => ?_)
      clear hK K
      try simp only [Act.put, List.setIfInBounds_toArray, List.set_cons_zero, List.set_cons_succ]
      refine wpAnyH_ready (rs := [4]) (by kernel_rfl) (by simp) ?_
      refine AllReadyH.cons rfl (fun K hK => ?_) AllReadyH.nil
      go_simp
      refine (moves_calls s ws f vh vt vw x h W2.drew ((HK.out.below HB2.out).below (Below.refl _ _).drew) HPX.out HH.out).mono ?_
      rintro e W3 ⟨rfl, hb3'⟩
      have hb3 : Below W2.heap.size W2 W3 := (Below.refl W2.heap.size W2).drew.trans hb3'
      refine hK.out _ _ (save_below hb3) (fun hHeld3 => ?_)
      · clear hK K
        try simp only [Act.put, List.setIfInBounds_toArray, List.set_cons_zero, List.set_cons_succ]
        refine wpAnyH_ready (rs := [5]) (by kernel_rfl) (by simp) ?_
        refine AllReadyH.cons rfl (fun K hK => ?_) AllReadyH.nil
        go_simp
        refine (joined_calls (nextTo s ws f h pre) (movesM s ws f x h) W3).mono ?_
        rintro e W4 ⟨rfl, hb4⟩
        have hb := hb3.trans (hb4.mono hb3.size)
        refine hK.out _ _ (save_below hb) (fun hHeld4 => ?_)
        clear hK K
        try simp only [Act.put, List.setIfInBounds_toArray, List.set_cons_zero, List.set_cons_succ]
        refine wpAnyH_ready (rs := [6]) (by kernel_rfl) (by simp) ?_
        refine AllReadyH.cons rfl (fun K hK => ?_) AllReadyH.nil
        have D3' := blk_below D3.out hb
        obtain ⟨e0', e1', e2', e3', e4'⟩ := set_cells D3'
        obtain ⟨f0', f1', f2', f3', f4'⟩ := five_frozen D3'
        clear e0 e1 e2 e3 e4 f0 f1 f2 f3 f4 c0 c1 c2 c3 c4 c5 c6 c7 c8
        go_simp
        refine hK.out _ _ (save_five hb) (fun hHeld5 => ?_)
        clear hK K
        refine wpAnyH_done (by kernel_rfl) ?_ _
        gi_wp2
        have hfin := next_fin (x := x) HZ.out HN2.out hb rfl
        simp only [or_false] at hfin ⊢
        exact hfin
    · go_simp
      refine (moves_calls s ws f vh vt vw x h W2.drew ((HK.out.below HB2.out).below (Below.refl _ _).drew) HPX.out HH.out).mono ?_
      rintro e W3 ⟨rfl, hb3'⟩
      have hb3 : Below W2.heap.size W2 W3 := (Below.refl W2.heap.size W2).drew.trans hb3'
      refine hK.out _ _ (save_below hb3) (fun hHeld3 => ?_)
      · clear hK K
        try simp only [Act.put, List.setIfInBounds_toArray, List.set_cons_zero, List.set_cons_succ]
        refine wpAnyH_ready (rs := [0]) (by kernel_rfl) (by simp) ?_
        refine AllReadyH.cons rfl (fun K hK => ?_) AllReadyH.nil
        obtain ⟨e0'', e1'', e2'', e3'', e4''⟩ := set_cells (blk_below D3.out hb3)
        go_simp
        refine hK.out _ _ (save_below hb3) (fun hHeld => ?_)
        clear hK K e0'' e1'' e2'' e3'' e4''
        try simp only [Act.put, List.setIfInBounds_toArray, List.set_cons_zero, List.set_cons_succ]
        refine wpAnyH_ready (rs := [5]) (by kernel_rfl) (by simp) ?_
        refine AllReadyH.cons rfl (fun K hK => ?_) AllReadyH.nil
        go_simp
        refine (joined_calls (nextTo s ws f h pre) (movesM s ws f x h) W3).mono ?_
        rintro e W4 ⟨rfl, hb4⟩
        have hb := hb3.trans (hb4.mono hb3.size)
        refine hK.out _ _ (save_below hb) (fun hHeld4 => ?_)
        clear hK K
        try simp only [Act.put, List.setIfInBounds_toArray, List.set_cons_zero, List.set_cons_succ]
        refine wpAnyH_ready (rs := [6]) (by kernel_rfl) (by simp) ?_
        refine AllReadyH.cons rfl (fun K hK => ?_) AllReadyH.nil
        have D3' := blk_below D3.out hb
        obtain ⟨e0', e1', e2', e3', e4'⟩ := set_cells D3'
        obtain ⟨f0', f1', f2', f3', f4'⟩ := five_frozen D3'
        clear e0 e1 e2 e3 e4 f0 f1 f2 f3 f4 c0 c1 c2 c3 c4 c5 c6 c7 c8
        go_simp
        refine hK.out _ _ (save_five hb) (fun hHeld5 => ?_)
        clear hK K
        refine wpAnyH_done (by kernel_rfl) ?_ _
        gi_wp2
        have hfin := next_fin (x := x) HZ.out HN2.out hb rfl
        simp only [or_false] at hfin ⊢
        exact hfin
  · rintro V ⟨h1, h2, h3, h4, h5⟩ hVs hDf
    have hz := HZ.out
    obtain ⟨d0, d1, d2, d3, d4⟩ := set_cells h4
    rw [setA_zero] at h3
    obtain ⟨f0, f1, f2, f3, f4⟩ := five_frozen h3
    obtain ⟨e0, e1, e2, e3, e4⟩ := zero_cells h3
    have H3 := Lib.hid h3
    have H5 := Lib.hid h5
    have HDF := Lib.hid hDf
    have HE : Hid (nextM s ws f m h = nextTo s ws f h (placesOf m)) := rfl
    generalize nextTo s ws f h (placesOf m) = M at d0 d1 d2 d3 d4 h4 HE
    clear h1 h2 h3 h4 h5 hDf b0
    go_wp2
    refine end_mark (D := W.heap.size) (setV (nextM s ws f m h)) rfl ?_ ?_ ?_
    · repeat (first | (with_reducible exact HDF.out) | refine blk_far ?_ (by simp; omega) _)
    · intro U hU
      have g1 := hU.blk (blk_set5 H3.out (.int .u64 (wd M 0)) (.int .u64 (wd M 1)) (.int .u64 (wd M 2)) (.int .u64 (wd M 3)) (.int .u64 (wd M 4))) (by omega)
      rw [HE.out]
      obtain ⟨q0, q1, q2, q3, q4⟩ := (show _ ∧ _ from set_cells (m := M) g1)
      simp [results, Tryz.results136, go_sem, q0, q1, q2, q3, q4]
    · intro U hU
      refine ⟨rfl, bl_fix (N := W.heap.size) ?_ (Nat.le_refl _) (by omega) (hU.mono fun b _ hb => by omega)⟩
      repeat (first | (with_reducible exact H5.out) | refine Below.setCell ?_ (by first | (simp; done) | (simp; omega)) _)
  · rintro c' pre V hp h _ _
    exact h.elim
end Go.Proofs.YtjekioabkmijbaaGreatDoor
set_option linter.unusedVariables false
set_option linter.unusedSimpArgs false
namespace Go.Proofs.YtjekioabkmijbaaGreatDoor
/-- Every place of the set lies on the sea. -/
def okM (s : DSea) (m : Nat) : Prop := ∀ p ∈ placesOf m, placeOk s p = true
theorem mem_places {m : Nat} {p : DPlace} : p ∈ placesOf m ↔ ∃ n, n < 320 ∧ m.testBit n = true ∧ placed n = p := by
  simp [placesOf, and_assoc]
theorem okM_iff {s : DSea} {m : Nat} : okM s m ↔ ∀ n, n < 320 → m.testBit n = true → placeOk s (placed n) = true := by
  unfold okM
  constructor
  · intro h n hn ht; exact h _ (mem_places.2 ⟨n, hn, ht, rfl⟩)
  · intro h p hp
    obtain ⟨n, hn, ht, rfl⟩ := mem_places.1 hp
    exact h n hn ht
theorem okM_zero (s : DSea) : okM s 0 := okM_iff.2 fun n _ h => by simp at h
theorem okM_or {s : DSea} {m m' : Nat} (h : okM s m) (h' : okM s m') : okM s (m ||| m') := okM_iff.2 fun n hn ht => by
  rw [Nat.testBit_or, Bool.or_eq_true] at ht
  rcases ht with ht | ht
  · exact okM_iff.1 h n hn ht
  · exact okM_iff.1 h' n hn ht
theorem bit_test (p : DPlace) (n : Nat) : (bit p).testBit n = decide (n = num p) := by
  unfold bit
  rw [Nat.one_shiftLeft, Nat.testBit_two_pow]
  exact decide_eq_decide.2 eq_comm
theorem placed_num {p : DPlace} (h : okP p) : placed (num p) = p := by
  obtain ⟨h1, h2, h3, h4⟩ := h
  obtain ⟨c, b⟩ := p
  simp only [placed, num] at *
  congr 1 <;> omega
theorem num_lt {p : DPlace} (h : okP p) : num p < 320 := by
  obtain ⟨h1, h2, h3, h4⟩ := h
  unfold num; omega
theorem okP_of {s : DSea} {p : DPlace} (hs : seaOk s = true) (hp : placeOk s p = true) : okP p := by
  obtain ⟨s1, s2, s3, s4, s5, s6, s7⟩ := seaOk_bounds hs
  obtain ⟨p1, p2, p3, p4⟩ := placeOk_bounds hp
  exact ⟨p1, by omega, p3, by omega⟩
theorem okM_bit {s : DSea} {p : DPlace} (hs : seaOk s = true) (hp : placeOk s p = true) : okM s (bit p) := okM_iff.2 fun n hn ht => by
  rw [bit_test, decide_eq_true_eq] at ht
  rw [ht, placed_num (okP_of hs hp)]; exact hp
theorem okM_fold {α : Type} {s : DSea} {g : Nat → α → Nat} : ∀ (l : List α) (m : Nat), okM s m → (∀ m a, a ∈ l → okM s m → okM s (g m a)) → okM s (l.foldl g m)
  | [], m, h, _ => h
  | a :: l, m, h, hg => okM_fold l _ (hg m a (by simp) h) (fun m b hb => hg m b (by simp [hb]))
theorem mem_ints {a lo hi : Int} : a ∈ ints lo hi ↔ lo ≤ a ∧ a ≤ hi := by
  simp only [ints, pfx, List.mem_map, List.mem_range]
  constructor
  · rintro ⟨i, hi', rfl⟩; omega
  · intro h; exact ⟨(a - lo).toNat, by omega, by omega⟩
theorem landing_ok {s : DSea} (hs : seaOk s = true) (f : Int) (p : DPlace) (t a r : Int) : placeOk s (landing s f p t a r) = true := by
  obtain ⟨s1, s2, s3, s4, s5, s6, s7⟩ := seaOk_bounds hs
  unfold placeOk landing clamp
  simp only [Bool.and_eq_true, decide_eq_true_eq]
  omega
theorem movesM_ok {s : DSea} (ws : List DWind) (f : Int) {p : DPlace} (h : Int) (hs : seaOk s = true) (hp : placeOk s p = true) : okM s (movesM s ws f p h) := by
  obtain ⟨s1, s2, s3, s4, s5, s6, s7⟩ := seaOk_bounds hs
  obtain ⟨p1, p2, p3, p4⟩ := placeOk_bounds hp
  unfold movesM
  split
  · refine okM_or (okM_bit hs hp) ?_
    split
    · refine okM_bit hs ?_
      unfold placeOk; simp only [Bool.and_eq_true, decide_eq_true_eq]; omega
    · exact okM_zero s
  · exact okM_fold _ _ (okM_zero s) fun m a _ hm => okM_fold _ _ hm fun m r _ hm => okM_or hm (okM_bit hs (landing_ok hs _ _ _ _ _))
theorem begunM_ok {s : DSea} {x : DLoss} (h : Int) (hs : seaOk s = true) (hx : lossOk s x = true) : okM s (begunM x h) := by
  obtain ⟨s1, s2, s3, s4, s5, s6, s7⟩ := seaOk_bounds hs
  unfold lossOk rangeOk at hx; simp only [Bool.and_eq_true, decide_eq_true_eq] at hx
  unfold begunM
  split
  · refine okM_fold _ _ (okM_zero s) fun m a ha hm => okM_fold _ _ hm fun m r hr hm => okM_or hm (okM_bit hs ?_)
    rw [mem_ints] at ha hr
    unfold placeOk; simp only [Bool.and_eq_true, decide_eq_true_eq]; omega
  · exact okM_zero s
theorem nextM_ok {s : DSea} (ws : List DWind) (f : Int) {m : Nat} (h : Int) (hs : seaOk s = true) (hm : okM s m) : okM s (nextM s ws f m h) :=
  okM_fold _ _ (okM_zero s) fun m' p hp hm' => okM_or hm' (movesM_ok ws f h hs (hm p hp))
theorem setAt_ok {s : DSea} (ws : List DWind) (f : Int) {x : DLoss} (hs : seaOk s = true) (hx : lossOk s x = true) : ∀ k : Nat, okM s (setAt s ws f x k)
  | 0 => begunM_ok _ hs hx
  | k + 1 => okM_or (nextM_ok ws f _ hs (setAt_ok ws f hs hx k)) (begunM_ok _ hs hx)
end Go.Proofs.YtjekioabkmijbaaGreatDoor
