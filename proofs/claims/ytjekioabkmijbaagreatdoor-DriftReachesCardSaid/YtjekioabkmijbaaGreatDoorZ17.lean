/- mapped: of winds, their numbers. -/
import Derived.Test.YtjekioabkmijbaaGreatDoorZ16
import Derived.Test.YtjekioabkmijbaaGreatDoorZ13
set_option linter.unusedVariables false
set_option linter.unusedSimpArgs false
namespace Go.Proofs.YtjekioabkmijbaaGreatDoor
open Go.RowKit
theorem map_take {α β : Type} (l : List α) (f : α → β) {k : Nat} {x : α} (h : l[k]? = some x) : (l.take (k + 1)).map f = (l.take k).map f ++ [f x] := by
  rw [List.take_add_one, h]; simp
theorem c90_calls (x : DWind) (w : World) : Calls Tryz.prog 90 #[windV x] w fun e w' => e = .returned (iv x.id) ∧ Below w.heap.size w w' := by
  go_enter Tryz.func90, Tryz.ntmps90
  go_wp2
  go_ret
  exact ⟨rfl, bl_alloc (Below.refl _ _) _⟩
set_option maxHeartbeats 2000000 in
set_option maxRecDepth 20000 in
theorem mapped89_calls (l : List DWind) (v : Value) (w : World) (hs : Sl DWind.cs 9 w v l) (hl : l.length ≤ 1000000) :
    Calls Tryz.prog 89 #[v, .func (.func 90) #[] #[]] w fun e w' => ∃ v', e = .returned v' ∧ Own intCs 1 3 w.heap.size w' v' (l.map DWind.id) ∧ Below w.heap.size w w' := by
  obtain ⟨A, c, rfl, hc, _⟩ := hs.open_
  have HS := Lib.hid hs
  clear hs
  go_enter Tryz.func89, Tryz.ntmps89
  go_wp2
  go_loopg [5, 10] l.length (fun n u i wr => ∃ k : Nat, k ≤ l.length ∧ n = l.length - k ∧ i = .int .i64 k ∧ Hid (Own intCs 1 3 w.heap.size wr u ((l.take k).map DWind.id)) ∧ Hid (Below w.heap.size w wr))
  case atStart => exact ⟨0, by omega, by omega, rfl, Own.nil _ _, Below.refl _ _⟩
  case round =>
    obtain ⟨k, hk, hn, rfl, HO, HB⟩ := hrel
    by_cases hlt : k < l.length
    · have hx : l[k]? = some l[k] := List.getElem?_eq_getElem hlt
      obtain ⟨x, hxe⟩ : ∃ x, x = l[k] := ⟨_, rfl⟩
      rw [← hxe] at hx
      clear hxe
      obtain ⟨b, o, rfl, d0, d1, d2, d3, d4, d5, d6, d7, d8⟩ := (HS.out.below HB.out).wind k _ hx
      have HT := Lib.hid (map_take l DWind.id hx)
      have hlen : ((l.take k).map DWind.id).length = k := by simp; omega
      obtain ⟨pl, hpl⟩ : ∃ pl, pl = (l.take k).map DWind.id := ⟨_, rfl⟩
      rw [← hpl] at HT hlen
      rw [← hpl] at HO
      have hpl1 : pl.length ≤ 1000000 := by omega
      clear hx hpl hlen
      go_wp2_with fail
      refine (c90_calls x _).mono ?_
      rintro e w2 ⟨rfl, hb2⟩
      have hbb : Below wr.heap.size wr w2 := (bl_alloc (Below.refl _ _) _).trans (hb2.mono (by simp))
      have HO2 := Lib.hid (HO.out.below hbb)
      have HB2 := Lib.hid (bl_step HB.out hbb)
      have hsz := HB2.out.size
      clear hb2 hbb d0 d1 d2 d3 d4 d5 d6 d7 d8
      go_wp2_with (at_builtin; refine wp_push (cs := intCs) (base := w.heap.size) rfl _ _ _ rfl (.int .i64 0) 8 Tryz.underlying22 info3 rfl (by decide) u5 pl x.id rfl (HO2.out.alloc _) w2.heap.size 1 1 rfl rfl (0, 0) 3 (blk_new _ _) rfl (by intro u hu; simp [intCs] at hu; subst hu; rfl) (by omega) (by decide) (by simp; omega) ?_; intro v' W4 hown' hgrow; have HO4 := Lib.hid hown'; have HB4 := Lib.hid (bl_push (bl_alloc HB2.out _) (HO2.out.alloc _) hgrow (Nat.le_refl _) (by simp; omega)); clear hown' hgrow)
      go_roundg (l.length - (k + 1))
      case measure => omega
      case rel => exact ⟨k + 1, by omega, rfl, by go_num, by unfold Hid; rw [HT.out]; exact HO4.out, HB4.out⟩
    · obtain rfl : k = l.length := by omega
      go_wp2
      rw [List.take_length] at HO
      refine bodyPost_ret (v := u5) (by simp [results, Tryz.results89, go_sem]) rfl ⟨_, rfl, HO.out, HB.out⟩
end Go.Proofs.YtjekioabkmijbaaGreatDoor
set_option linter.unusedVariables false
set_option linter.unusedSimpArgs false
namespace Go.Proofs.YtjekioabkmijbaaGreatDoor
open Go.RowKit Go.Shelf
attribute [local go_sem] Oper.semAt_some
def setsOf (s : DSea) (ws : List DWind) (f : Int) (x : DLoss) (h : Int) : List Nat := (List.range (hoursN x h)).map (setAt s ws f x)
theorem hours_snd (s : DSea) (ws : List DWind) (f : Int) (x : DLoss) (h : Int) : (hoursTo s ws f x (hoursN x h)).map Prod.snd = setsOf s ws f x h := by simp [hoursTo, setsOf, Function.comp_def]
set_option maxHeartbeats 1000000 in
set_option maxRecDepth 20000 in
theorem sets_calls (s : DSea) (ws : List DWind) (f : Int) (vh vt vw : Value) (x : DLoss) (h : Int) (w : World) (hk : Sky s ws f vh vt vw w) (hx : lossOk s x = true) (hh : h ≤ 1000000) :
    Calls Tryz.prog 140 #[.agg #[iv s.cells, iv s.bands, vh, vt, vw, iv f], lossV x, iv h] w fun e w' => ∃ v, e = .returned v ∧ Own setCs 5 115 w.heap.size w' v (setsOf s ws f x h) ∧ Below w.heap.size w w' := by
  have hF : ∀ f, Fence.wide.fn f := fun _ => trivial
  have hD : Fence.wide.depth = none := rfl
  have HK := Lib.hid hk
  have HX := Lib.hid hx
  have hxb := (lossOk_bounds hk.sea hx).2
  have HXB := Lib.hid hxb
  clear hk hx hxb
  refine callsW.1 (callsIn_of_wp_marks (F := FW none) (n := 0) Tryz.func140 rfl trivial (wpIn_wide.2 ?_))
  simp only [Tryz.ntmps140, List.size_toArray, List.length_cons, List.length_nil, Nat.reduceAdd, Nat.reduceSub, Array.replicate_succ, Array.replicate_zero, List.push_toArray, List.append_toArray, List.nil_append, List.cons_append]
  go_wp2_with (go_at_call 83; refine (hours_calls _ _ _ _ _ _ _ _).mono ?_; rintro e w' ⟨rfl, rfl⟩)
  refine wp_abs (fun W hW => ?_)
  have b0 : W.heap[w.heap.size + 1 + 1]? = some (.cells #[.slice none 0 0] 184 (0, 0)) := by rw [hW]; exact blk_alloc (blk_alloc (blk_alloc (blk_at _ (by simp)) _) _) _
  have b1 : W.heap[w.heap.size + 1 + 1 + 1]? = some (.cells (skyA s f vh vt vw) 110 (0, 0)) := by rw [hW]; exact blk_alloc (blk_alloc (blk_at _ (by simp)) _) _
  have b2 : W.heap[w.heap.size + 1 + 1 + 1 + 1]? = some (.cells (lossA x) 30 (0, 0)) := by rw [hW]; exact blk_alloc (blk_at _ (by simp)) _
  have b3 : W.heap[w.heap.size + 1 + 1 + 1 + 1 + 1]? = some (.cells #[iv h] 3 (0, 0)) := by rw [hW]; exact blk_at _ (by simp)
  have hB : Below w.heap.size w W := by rw [hW]; exact bl_alloc (bl_alloc (bl_alloc (bl_alloc (bl_alloc (bl_alloc (Below.refl _ _) _) _) _) _) _) _
  have hsz : W.heap.size = w.heap.size + 1 + 1 + 1 + 1 + 1 + 1 := by rw [hW]; simp
  clear hW
  have hG : Gath setCs 5 115 W.heap.size (w.heap.size + 1 + 1) 184 w (fun _ => False) (([] : List (Int × Nat)).map Prod.snd) W := ⟨⟨_, b0, Own.nil _ _, fun _ _ h => h⟩, fun h => h, fun _ h => h.elim, by omega, Nat.le_refl _, hB⟩
  have hHD : ∀ V, Fix (fun b => b < W.heap.size ∧ b ≠ w.heap.size + 1 + 1) W V → HoursD s ws f vh vt vw x h (w.heap.size + 1 + 1 + 1 + 1) (w.heap.size + 1 + 1 + 1 + 1 + 1) (w.heap.size + 1 + 1 + 1) V := fun V hV =>
    ⟨hV.blk b2 ⟨by omega, by omega⟩, hV.blk b3 ⟨by omega, by omega⟩, hV.blk b1 ⟨by omega, by omega⟩, HK.out.below (hB.trans ((hV.mono (K' := fun b => b < w.heap.size) fun b _ hb => ⟨by omega, by omega⟩).to_below (by omega)))⟩
  have HB := Lib.hid hB
  refine wp_iter0 (α := Int × Nat) (K := fun b => b < W.heap.size ∧ b ≠ w.heap.size + 1 + 1) (callsAs_closure (enters_of Tryz.func145 (by kernel_rfl) rfl)) (hours_iter s ws f vh vt vw x h _ _ _ _ W HX.out hh hHD) (Fix.refl _ _) (fun x => rfl) (fun b h => h.1)
    (fun X (pre : List (Int × Nat)) V => Gath setCs 5 115 W.heap.size (w.heap.size + 1 + 1) 184 w X (pre.map Prod.snd) V)
    (fun cd X pre V => False)
    (fun X pre V V' h hf => h.fix (by omega) hf) (fun X X' pre V h hx => h.ext hx) (fun _ _ _ _ _ h _ => h) (fun _ _ _ _ _ h _ => h) hG ?_ ?_ ?_
  · rintro lp Y pre y V hlp hY hr hN hx hfK
    gi_wp2
    refine ⟨Fix.of_below (bl_alloc (Below.refl _ _) _), fun W2 hf2 hs2 hr2 => ?_⟩
    obtain ⟨⟨v, h1, h2, h3⟩, h4, h5, h6, h7, h8⟩ := hN
    have hlg : ¬ w.heap.size + 1 + 1 = lp := fun h => h4 (h ▸ hlp)
    have d0 : W2.heap[w.heap.size + 1 + 1]? = some (.cells #[v] 184 (0, 0)) := hf2.blk (blk_alloc h1 _) hlg
    have d1 : W2.heap[V.heap.size]? = some (.cells (setA y.2) 115 (0, 0)) := hf2.blk (blk_new _ _) (fun h => by have := (hY lp hlp).2; omega)
    have d2 : Own setCs 5 115 W.heap.size W2 v (pre.map Prod.snd) := (h2.alloc _).fix hf2 (fun b hb h => h3 b hb (h ▸ hlp))
    have d3 : Below w.heap.size w W2 := bl_fix (bl_alloc h8 _) (Nat.le_refl _) (N := W.heap.size) (by omega) (hf2.mono fun b _ hb => by have := (hY lp hlp).1; omega)
    have hs3 : V.heap.size ≤ W2.heap.size := by simp at hs2; omega
    have hll : (pre.map Prod.snd).length ≤ 1000000 := by
      have := hx.length_le
      have e : (hoursTo s ws f x (hoursN x h)).length = hoursN x h := by simp [hoursTo]
      have hb := HXB.out
      simp at this ⊢; rw [e] at this; unfold hoursN at this; omega
    have c0 := blk_cell d0 0
    simp only [List.getElem?_toArray, List.getElem?_cons_zero, List.getElem?_cons_succ] at c0
    obtain ⟨c1, c2, c3, c4, c5⟩ := set_cells d1
    have f0 := blk_frozen d0 0
    have D0 := Lib.hid d0
    have D2 := Lib.hid d2
    have D3 := Lib.hid d3
    have H3 := Lib.hid h3
    have H4 := Lib.hid h4
    have HY := Lib.hid hY
    have hlg' := h6
    have HZ := Lib.hid hsz
    have H7 : Hid (W.heap.size ≤ W2.heap.size) := by unfold Hid; omega
    obtain ⟨hbl, hHbl⟩ : ∃ hbl : List Nat, hbl = pre.map Prod.snd := ⟨_, rfl⟩
    have HPRE : Hid ((pre ++ [y]).map Prod.snd = hbl ++ [y.2]) := by unfold Hid; rw [hHbl]; simp
    rw [← hHbl] at D2 hll
    clear hHbl hsz d0 d1 d2 d3 h1 h2 h3 h4 h5 h8 hf2 hs2 hr hr2 hx hfK hY hB b0 b1 b2 b3 hG hHD
    have hb3 : Below W2.heap.size W2 (W2.alloc (.cells (setA y.2) 115)) := (Below.refl _ _).alloc (Nat.le_refl _) _
    have HB3 := Lib.hid hb3
    apply wpIn_block
    apply region_list
    · simp
    · rintro ⟨_, _, h⟩; exact h
    go_wp2_with (at_builtin; refine wp_push2 (cs := setCs) (base := W.heap.size) rfl _ _ _ rfl (.agg #[.int .u64 0, .int .u64 0, .int .u64 0, .int .u64 0, .int .u64 0]) 40 Tryz.underlying184 info115 rfl (by decide) v hbl y.2 rfl (D2.out.alloc _) W2.heap.size 1 1 rfl rfl (0, 0) 115 (blk_new _ _) rfl (by intro u hu; simp [setCs] at hu; rcases hu with rfl | rfl | rfl | rfl | rfl <;> rfl) (by omega) (by decide) (by have := H7.out; simp; omega) ?_; intro v' W4 hown' hgrow hnew; obtain ⟨A', c', rfl⟩ := hown'.slice; have g4 := blk_grown (blk_below D0.out HB3.out) hgrow (fun h => by have := (D2.out.lt _ h.symm).1; omega); have c4 := blk_cell g4 0; have f4 := blk_frozen g4 0; have HO := Lib.hid hown'; have HG := Lib.hid hgrow; have HN := Lib.hid hnew; clear hown' hgrow hnew g4)
    have hz := HZ.out
    have ho := HO.out
    have hn := HN.out
    rw [show (hbl ++ [y.2]).length = hbl.length + 1 by simp] at ho hn
    have hfin := Gath.pushed (K := fun b => b < W.heap.size ∧ b ≠ w.heap.size + 1 + 1) (by omega) (by omega) D0.out D2.out H3.out H4.out (fun b hb => ⟨(HY.out b hb).1, by have := (HY.out b hb).2; omega⟩) (by omega) H7.out D3.out HB3.out ho HG.out hn (fun b hb => hb)
    rw [← HPRE.out] at hfin
    exact hfin
  · rintro V ⟨⟨v, h1, h2, h3⟩, h4, h5, h6, h7, h8⟩ hfK hDf
    rw [hours_snd] at h2
    have c0 := blk_cell h1 0
    simp only [List.getElem?_toArray, List.getElem?_cons_zero] at c0
    have H2 := Lib.hid h2
    have H8 := Lib.hid h8
    have HDF := Lib.hid hDf
    have HZ := Lib.hid hsz
    clear h1 h2 h3 h4 h5 h7 h8 hDf hG b0 b1 b2 b3 hHD hB hsz hfK
    go_wp2
    have hz := HZ.out
    refine end_mark (D := W.heap.size) v rfl HDF.out ?_ ?_
    · intro U hU
      simp [results, Tryz.results140, go_sem]
    · intro U hU
      refine ⟨v, rfl, (H2.out.fix hU (fun b hb hD => ?_)).mono (by omega), bl_fix (N := W.heap.size) H8.out (Nat.le_refl _) (by omega) (hU.mono fun b _ hb => by omega)⟩
      obtain ⟨cur, hcur⟩ := H2.out.isCells hb
      subst hD
      rw [HDF.out] at hcur
      simp at hcur
  · rintro c' pre V hp h _
    exact h.elim
end Go.Proofs.YtjekioabkmijbaaGreatDoor
set_option linter.unusedVariables false
set_option linter.unusedSimpArgs false
namespace Go.Proofs.YtjekioabkmijbaaGreatDoor
open Go.RowKit Go.Shelf
set_option maxHeartbeats 1000000 in
set_option maxRecDepth 100000 in
theorem last_calls (s : DSea) (ws : List DWind) (f : Int) (vh vt vw : Value) (x : DLoss) (h : Int) (w : World) (hk : Sky s ws f vh vt vw w) (hx : lossOk s x = true) (hh : h ≤ 1000000) (hle : x.hl ≤ h) :
    Calls Tryz.prog 77 #[.agg #[iv s.cells, iv s.bands, vh, vt, vw, iv f], lossV x, iv h] w fun e w' => e = .returned (setV (reachM s ws f x h)) ∧ Below w.heap.size w w' := by
  have hb0 : Below w.heap.size w (((w.alloc (.cells (skyA s f vh vt vw) 110)).alloc (.cells (lossA x) 30)).alloc (.cells zeroA 115)) := bl_alloc (bl_alloc (bl_alloc (Below.refl _ _) _) _) _
  have HC := Lib.hid (sets_calls s ws f vh vt vw x h _ (hk.below hb0) hx hh)
  have HB0 := Lib.hid hb0
  have hxb := (lossOk_bounds hk.sea hx).2
  have hN : hoursN x h = (h - x.hl).toNat + 1 := by unfold hoursN; omega
  obtain ⟨q, hq⟩ : ∃ q, q = (h - x.hl).toNat := ⟨_, rfl⟩
  have HE : Hid (reachM s ws f x h = setAt s ws f x q) := by rw [hq]; exact rfl
  have HL : Hid ((setsOf s ws f x h).length = q + 1) := by unfold Hid setsOf; rw [List.length_map, List.length_range, hN, hq]
  have HG : Hid ((setsOf s ws f x h)[q]? = some (setAt s ws f x q)) := by unfold Hid setsOf; rw [List.getElem?_map, List.getElem?_range (by omega)]; rfl
  have hqb : q ≤ 1000000 := by omega
  clear hb0 hxb hN hq hk
  go_enter Tryz.func77, Tryz.ntmps77
  go_wp2_with fail
  refine HC.out.mono ?_
  rintro e w1 ⟨v, rfl, ho, hb⟩
  have HO := Lib.hid ho
  have HB1 := Lib.hid hb
  clear ho hb
  obtain ⟨A, c, rfl⟩ := HO.out.slice
  obtain ⟨b, o, rfl, r0, r1, r2, r3, r4⟩ := (Own.sl (cs := setCs) (k := 5) (fun _ => rfl) HO.out (by rw [HL.out]; omega)).set q _ HG.out
  have g := blk_below (blk_at (w := (w.alloc (.cells (skyA s f vh vt vw) 110)).alloc (.cells (lossA x) 30)) (.cells zeroA 115) (show w.heap.size + 1 + 1 = _ by simp)) HB1.out
  obtain ⟨e0, e1, e2, e3, e4⟩ := zero_cells g
  obtain ⟨f0, f1, f2, f3, f4⟩ := five_frozen g
  have l1 := World.block_lt_of_cell? w1 _ r0
  have G := Lib.hid g
  have hbne : ¬ b = w.heap.size + 1 + 1 := by
    intro h
    have := (HO.out.lt b rfl).1
    simp at this; omega
  clear g
  rw [HL.out]
  go_wp2
  refine bodyPost_ret (v := setV (reachM s ws f x h)) (by rw [HE.out]; simp [results, Tryz.results77, go_sem, e0, e1, e2, e3, e4]) rfl ⟨rfl, ?_⟩
  have hbx := bl_step HB0.out HB1.out
  repeat (first | (with_reducible exact hbx) | refine Below.setCell ?_ (by first | (simp; done) | (simp; omega)) _)
end Go.Proofs.YtjekioabkmijbaaGreatDoor
/- Rows of rows; mapped: of sets, their lists. -/
set_option linter.unusedVariables false
set_option linter.unusedSimpArgs false
namespace Go.Proofs.YtjekioabkmijbaaGreatDoor
open Go.RowKit
def valCs (v : Value) : List Value := [v]
/-- A row of rows that the call owns. -/
def OwnRows (base : Nat) (w : World) (v : Value) (xss : List (List DPlace)) : Prop :=
  ∃ vs : List Value, Own valCs 1 34 base w v vs ∧ vs.length = xss.length ∧ ∀ (i : Nat) (u : Value) (xs : List DPlace), vs[i]? = some u → xss[i]? = some xs → Own DPlace.cs 2 48 base w u xs
def SlRows (w : World) (v : Value) (xss : List (List DPlace)) : Prop :=
  ∃ vs : List Value, Sl valCs 1 w v vs ∧ vs.length = xss.length ∧ ∀ (i : Nat) (u : Value) (xs : List DPlace), vs[i]? = some u → xss[i]? = some xs → Sl DPlace.cs 2 w u xs
theorem own_apart {α β : Type} {cs : α → List Value} {ds : β → List Value} {k j e e' base base' : Nat} {w : World} {v u : Value} {xs : List α} {ys : List β} (h : Own cs k e base w v xs) (h' : Own ds j e' base' w u ys) (hne : e ≠ e') : v.ownBlock = none ∨ v.ownBlock ≠ u.ownBlock := by
  cases hv : v.ownBlock with
  | none => exact .inl rfl
  | some b =>
    right
    intro hu
    obtain ⟨c1, h1⟩ := h.isCells hv
    obtain ⟨c2, h2⟩ := h'.isCells hu.symm
    rw [h1] at h2
    simp at h2
    exact hne h2.2
section
variable {base : Nat} {w w' : World} {v : Value} {xss : List (List DPlace)}
theorem OwnRows.nil (w : World) (base : Nat) : OwnRows base w (.slice none 0 0) [] := ⟨[], Own.nil _ _, rfl, fun i u xs h => by simp at h⟩
theorem OwnRows.below (h : OwnRows base w v xss) (hb : Below w.heap.size w w') : OwnRows base w' v xss := by
  obtain ⟨vs, ho, hl, hr⟩ := h
  exact ⟨vs, ho.below hb, hl, fun i u xs h1 h2 => (hr i u xs h1 h2).below hb⟩
theorem OwnRows.mono {base' : Nat} (h : OwnRows base w v xss) (hb : base' ≤ base) : OwnRows base' w v xss := by
  obtain ⟨vs, ho, hl, hr⟩ := h
  exact ⟨vs, ho.mono hb, hl, fun i u xs h1 h2 => (hr i u xs h1 h2).mono hb⟩
theorem OwnRows.pushed {vs : List Value} {u v' : Value} {ys : List DPlace} (ho : Own valCs 1 34 base w v vs) (hl : vs.length = xss.length) (hr : ∀ (i : Nat) (u : Value) (xs : List DPlace), vs[i]? = some u → xss[i]? = some xs → Own DPlace.cs 2 48 base w u xs)
    (hu : Own DPlace.cs 2 48 base w u ys) (ho' : Own valCs 1 34 base w' v' (vs ++ [u])) (hg : w.grownBy w' v.ownBlock) : OwnRows base w' v' (xss ++ [ys]) := by
  refine ⟨vs ++ [u], ho', by simp [hl], fun i z xs h1 h2 => ?_⟩
  have key : ∀ {z : Value} {xs : List DPlace}, Own DPlace.cs 2 48 base w z xs → Own DPlace.cs 2 48 base w' z xs := fun hz => hz.kept hg (own_apart hz ho (by decide))
  by_cases hi : i < vs.length
  · rw [List.getElem?_append_left hi] at h1
    rw [List.getElem?_append_left (by omega)] at h2
    exact key (hr i z xs h1 h2)
  · rw [List.getElem?_append_right (by omega)] at h1
    rw [List.getElem?_append_right (by omega), hl.symm] at h2
    cases hq : i - vs.length with
    | zero =>
      rw [hq] at h1 h2
      simp at h1 h2
      subst h1 h2
      exact key hu
    | succ n => rw [hq] at h1; simp at h1
theorem OwnRows.sl (h : OwnRows base w v xss) (h1 : xss.length ≤ 17592186044416) (h2 : ∀ xs ∈ xss, xs.length ≤ 17592186044416) : SlRows w v xss := by
  obtain ⟨vs, ho, hl, hr⟩ := h
  refine ⟨vs, ho.sl (fun _ => rfl) (by omega), hl, fun i u xs e1 e2 => (hr i u xs e1 e2).sl (fun _ => rfl) (h2 xs (List.mem_of_getElem? e2))⟩
theorem SlRows.below (h : SlRows w v xss) (hb : Below w.heap.size w w') : SlRows w' v xss := by
  obtain ⟨vs, ho, hl, hr⟩ := h
  exact ⟨vs, ho.below hb, hl, fun i u xs h1 h2 => (hr i u xs h1 h2).below hb⟩
theorem SlRows.open_ (h : SlRows w v xss) : ∃ A c, v = .slice A xss.length c ∧ xss.length ≤ c ∧ xss.length ≤ 17592186044416 := by
  obtain ⟨vs, ho, hl, hr⟩ := h
  obtain ⟨A, c, e, h1, h2⟩ := ho.open_
  rw [hl] at e h1 h2
  exact ⟨A, c, e, h1, h2⟩
theorem SlRows.get {A : Option Addr} {n c : Nat} (h : SlRows w (.slice A n c) xss) (i : Nat) (xs : List DPlace) (hi : xss[i]? = some xs) : ∃ b o u, A = some ⟨b, o, none⟩ ∧ w.cell? ⟨b, o + i, none⟩ = some u ∧ Sl DPlace.cs 2 w u xs := by
  obtain ⟨vs, ho, hl, hr⟩ := h
  have hlt : i < vs.length := by have := (List.getElem?_eq_some_iff.1 hi).1; omega
  have hv : vs[i]? = some vs[i] := List.getElem?_eq_getElem hlt
  obtain ⟨b, o, e, hc⟩ := ho.get i _ hv
  exact ⟨b, o, _, e, by have := hc 0 _ rfl; rwa [Nat.add_zero, Nat.mul_one] at this, hr i _ xs hv hi⟩
end
set_option maxHeartbeats 2000000 in
set_option maxRecDepth 20000 in
theorem mapped142_calls (l : List Nat) (v : Value) (w : World) (hs : Sl setCs 5 w v l) (hl : l.length ≤ 1000000) :
    Calls Tryz.prog 142 #[v, .func (.func 78) #[] #[]] w fun e w' => ∃ v', e = .returned v' ∧ OwnRows w.heap.size w' v' (l.map placesOf) ∧ Below w.heap.size w w' := by
  obtain ⟨A, c, rfl, hc, _⟩ := hs.open_
  have HS := Lib.hid hs
  clear hs
  go_enter Tryz.func142, Tryz.ntmps142
  go_wp2
  go_loopg [5, 10] l.length (fun n u i wr => ∃ k : Nat, k ≤ l.length ∧ n = l.length - k ∧ i = .int .i64 k ∧ Hid (OwnRows w.heap.size wr u ((l.take k).map placesOf)) ∧ Hid (Below w.heap.size w wr))
  case atStart => exact ⟨0, by omega, by omega, rfl, OwnRows.nil _ _, Below.refl _ _⟩
  case round =>
    obtain ⟨k, hk, hn, rfl, HO, HB⟩ := hrel
    by_cases hlt : k < l.length
    · have hx : l[k]? = some l[k] := List.getElem?_eq_getElem hlt
      obtain ⟨x, hxe⟩ : ∃ x, x = l[k] := ⟨_, rfl⟩
      rw [← hxe] at hx
      clear hxe
      obtain ⟨b, o, rfl, d0, d1, d2, d3, d4⟩ := (HS.out.below HB.out).set k _ hx
      have HT := Lib.hid (map_take l placesOf hx)
      have hlen : ((l.take k).map placesOf).length = k := by simp; omega
      obtain ⟨pl, hpl⟩ : ∃ pl, pl = (l.take k).map placesOf := ⟨_, rfl⟩
      rw [← hpl] at HT hlen
      rw [← hpl] at HO
      have hpl1 : pl.length ≤ 1000000 := by omega
      clear hx hpl hlen
      go_wp2_with fail
      refine (list_calls x _).mono ?_
      rintro e w2 ⟨y, rfl, hoy, hb2⟩
      have hbb : Below wr.heap.size wr w2 := (bl_alloc (Below.refl _ _) _).trans (hb2.mono (by simp))
      have HY := Lib.hid (hoy.mono (base' := w.heap.size) (by have := HB.out.size; simp; omega))
      obtain ⟨vs, hov, hvl, hvr⟩ := HO.out.below hbb
      have HV := Lib.hid hov
      have HVR := Lib.hid hvr
      have HVL := Lib.hid hvl
      have hvl1 : vs.length ≤ 1000000 := by omega
      have HB2 := Lib.hid (bl_step HB.out hbb)
      have hsz := HB2.out.size
      obtain ⟨yA, yc, rfl⟩ := hoy.slice
      clear hb2 hbb d0 d1 d2 d3 d4 hov hvr hvl hoy
      go_wp2_with (at_builtin; refine wp_push (cs := valCs) (base := w.heap.size) rfl _ _ _ rfl (.slice none 0 0) 24 Tryz.underlying96 info34 rfl (by decide) u5 vs (.slice yA (placesOf x).length yc) rfl (HV.out.alloc _) w2.heap.size 1 1 rfl rfl (0, 0) 34 (blk_new _ _) rfl (by intro u hu; simp [valCs] at hu; subst hu; rfl) (by omega) (by decide) (by simp; omega) ?_; intro v' W4 hown' hgrow; have HO4 := Lib.hid (OwnRows.pushed (HV.out.alloc _) HVL.out (fun i u xs e1 e2 => (HVR.out i u xs e1 e2).alloc _) (HY.out.alloc _) hown' hgrow); have HB4 := Lib.hid (bl_push (bl_alloc HB2.out _) (HV.out.alloc _) hgrow (Nat.le_refl _) (by simp; omega)); clear hown' hgrow)
      go_roundg (l.length - (k + 1))
      case measure => omega
      case rel => exact ⟨k + 1, by omega, rfl, by go_num, by unfold Hid; rw [HT.out]; exact HO4.out, HB4.out⟩
    · obtain rfl : k = l.length := by omega
      go_wp2
      rw [List.take_length] at HO
      refine bodyPost_ret (v := u5) (by simp [results, Tryz.results142, go_sem]) rfl ⟨_, rfl, HO.out, HB.out⟩
end Go.Proofs.YtjekioabkmijbaaGreatDoor
