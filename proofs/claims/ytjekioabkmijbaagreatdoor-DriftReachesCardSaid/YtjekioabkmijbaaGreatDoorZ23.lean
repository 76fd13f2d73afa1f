/- Landings. -/
import Derived.Test.YtjekioabkmijbaaGreatDoorZ19
import Derived.Test.YtjekioabkmijbaaGreatDoorZ21
import Derived.Test.YtjekioabkmijbaaGreatDoorZ22
set_option linter.unusedVariables false
set_option linter.unusedSimpArgs false
namespace Go.Proofs.YtjekioabkmijbaaGreatDoor
open Go.RowKit Go.Shelf
attribute [local go_sem] Oper.semAt_some
abbrev Lands := Int → Option (Int × Int)
def landQ (h : Int) (L : Lands) (q : DPlace) : Lands := if q.b = 0 then landPut L q.c ((L q.c).elim (h + 1) Prod.fst, h + 1) else L
def landP (s : DSea) (ws : List DWind) (f h : Int) (L : Lands) (p : DPlace) : Lands := if p.b = 0 then L else (placesOf (movesM s ws f p h)).foldl (landQ h) L
def landH (s : DSea) (ws : List DWind) (f : Int) (L : Lands) (y : Int × Nat) : Lands := (placesOf y.2).foldl (landP s ws f y.1) L
def landAll (s : DSea) (ws : List DWind) (f : Int) (x : DLoss) (h : Int) : Lands := (hoursTo s ws f x (hoursN x (h - 1))).foldl (landH s ws f) (fun _ => none)
def landOf (L : Lands) (cells : Int) : List DLand := (ints 0 (cells - 1)).filterMap fun c => (L c).map fun q => ⟨c, q.1, q.2⟩
def landL (s : DSea) (l : List DWind) (known f : Int) (x : DLoss) (h : Int) : List DLand := if errAsk s l x f none h = 0 then landOf (landAll s (counting l known) f x h) s.cells else []
def landTo (L : Lands) (k : Nat) : List DLand := (pfx 0 k).filterMap fun c => (L c).map fun q => ⟨c, q.1, q.2⟩
theorem landTo_yes {L : Lands} {k : Nat} {a b : Int} (h : L (k : Int) = some (a, b)) : landTo L (k + 1) = landTo L k ++ [⟨(k : Int), a, b⟩] := by
  unfold landTo
  rw [show pfx 0 (k + 1) = pfx 0 k ++ [(k : Int)] by simp [pfx, List.range_succ], List.filterMap_append]
  simp [h]
theorem landTo_no {L : Lands} {k : Nat} (h : L (k : Int) = none) : landTo L (k + 1) = landTo L k := by
  unfold landTo
  rw [show pfx 0 (k + 1) = pfx 0 k ++ [(k : Int)] by simp [pfx, List.range_succ], List.filterMap_append]
  simp [h]
theorem landTo_len (L : Lands) (k : Nat) : (landTo L k).length ≤ k := by
  unfold landTo
  refine Nat.le_trans (List.length_filterMap_le _ _) ?_
  simp [pfx]
theorem hours_of {s : DSea} {ws : List DWind} {f : Int} {x : DLoss} {h : Int} (hs : seaOk s = true) (hx : lossOk s x = true) (hh : h ≤ 1000000) {y : Int × Nat} (hy : y ∈ hoursTo s ws f x (hoursN x (h - 1))) : okM s y.2 ∧ (0 ≤ y.1 ∧ y.1 ≤ 1000000) := by
  unfold hoursTo at hy
  obtain ⟨j, hj, rfl⟩ := List.mem_map.1 hy
  have hj2 := List.mem_range.1 hj
  have hb := (lossOk_bounds hs hx).2
  unfold hoursN at hj2
  exact ⟨setAt_ok ws f hs hx j, by dsimp only; omega, by dsimp only; omega⟩
set_option maxHeartbeats 4000000 in
set_option maxRecDepth 20000 in
theorem landings_calls (s : DSea) (l : List DWind) (x : DLoss) (known f h : Int) (vh vt vl : Value) (w : World) (hf : 0 ≤ f ∧ f ≤ 255) (h1 : Sl intCs 1 w vh s.hts) (h2 : Sl DTide.cs 2 w vt s.tds) (h3 : Sl DWind.cs 9 w vl l) :
    Calls Tryz.prog 26 #[.agg #[iv s.cells, iv s.bands, vh, vt], vl, iv known, lossV x, .int .u8 f, iv h] w fun e w' =>
      ∃ v, e = .returned (.tuple #[v, iv (errAsk s l x f none h)]) ∧ Own DLand.cs 3 86 w.heap.size w' v (landL s l known f x h) ∧ Below w.heap.size w w' := by
  have hF : ∀ f, Fence.wide.fn f := fun _ => trivial
  have hD : Fence.wide.depth = none := rfl
  obtain ⟨A1, k1, rfl, hk1, hlk1⟩ := h1.open_
  obtain ⟨A2, k2, rfl, hk2, hlk2⟩ := h2.open_
  have hbW := bl_alloc (bl_alloc (Below.refl w.heap.size w) (.cells #[iv s.cells, iv s.bands, .slice A1 s.hts.length k1, .slice A2 s.tds.length k2] 25)) (.cells (lossA x) 30)
  have HBW := Lib.hid hbW
  by_cases he : errAsk s l x f none h = 0
  · have HC := Lib.hid (asked_ok s l x known f h _ _ vl _ hf (h1.below hbW) (h2.below hbW) (h3.below hbW) he)
    have HFA := Lib.hid (ask_facts he)
    have HR : Hid (landL s l known f x h = landOf (landAll s (counting l known) f x h) s.cells) := if_pos he
    have HE := Lib.hid he
    have hmk : ∀ w, (Instr.makeMap 122 none).run Tryz.prog w = .ok (.map (some w.heap.size)) (w.alloc (.map #[] 0)) := fun w => run_makeMap _ _
    clear he h1 h2 h3 hbW
    refine callsW.1 (callsIn_of_wp_marks (F := FW none) (n := 0) Tryz.func26 rfl trivial (wpIn_wide.2 ?_))
    simp only [Tryz.ntmps26, List.size_toArray, List.length_cons, List.length_nil, Nat.reduceAdd, Nat.reduceSub, Array.replicate_succ, Array.replicate_zero, List.push_toArray, List.append_toArray, List.nil_append, List.cons_append]
    go_wp2_with fail
    refine HC.out.mono ?_
    rintro e w1 ⟨A3, n3, c3, rfl, hk, hb1⟩
    have HK := Lib.hid hk
    have G0 := Lib.hid (blk_below (blk_alloc (blk_new w (.cells #[iv s.cells, iv s.bands, .slice A1 s.hts.length k1, .slice A2 s.tds.length k2] 25)) (.cells (lossA x) 30)) hb1)
    have G1 := Lib.hid (blk_below (blk_at (w := w.alloc (.cells #[iv s.cells, iv s.bands, .slice A1 s.hts.length k1, .slice A2 s.tds.length k2] 25)) (.cells (lossA x) 30) (show w.heap.size + 1 = _ by simp)) hb1)
    have HB1 := Lib.hid (bl_step HBW.out hb1)
    obtain ⟨d0, d1, d2, d3, d4, d5, d6⟩ := loss_cells G1.out
    have l1 := blk_lt G1.out
    have l1' : w.heap.size < w1.heap.size := by omega
    have hh1 : IntKind.i64.wrap (h - 1) = h - 1 := IntWalk.i64_in _ (by have := HFA.out.hour; omega)
    clear hk hb1
    go_wp2_with (go_at_call 83; refine (hours_calls _ _ _ _ _ _ _ _).mono ?_; rintro e w' ⟨rfl, rfl⟩)
    refine wp_abs (fun W hW => ?_)
    have g14 : W.heap[w1.heap.size]? = some (.cells (skyA s f (.slice A1 s.hts.length k1) (.slice A2 s.tds.length k2) (.slice A3 n3 c3)) 110 (0, 0)) := by rw [hW]; exact blk_alloc (blk_alloc (blk_alloc (blk_alloc (blk_alloc (blk_new _ _) _) _) _) _) _
    have gm : LandMap (fun _ => none) (w1.heap.size + 1) 0 W := by
      rw [hW]
      have := LandMap.made (w1.alloc (.cells (skyA s f (.slice A1 s.hts.length k1) (.slice A2 s.tds.length k2) (.slice A3 n3 c3)) 110))
      rw [show (w1.alloc (.cells (skyA s f (.slice A1 s.hts.length k1) (.slice A2 s.tds.length k2) (.slice A3 n3 c3)) 110)).heap.size = w1.heap.size + 1 by simp] at this
      exact this.below (bl_alloc (bl_alloc (bl_alloc (bl_alloc (Below.refl _ _) _) _) _) _)
    have g16 : W.heap[w1.heap.size + 1 + 1]? = some (.cells #[.map (some (w1.heap.size + 1))] 122 (0, 0)) := by rw [hW]; exact blk_alloc (blk_alloc (blk_alloc (blk_at _ (by simp)) _) _) _
    have gsk : W.heap[w1.heap.size + 1 + 1 + 1]? = some (.cells (skyA s f (.slice A1 s.hts.length k1) (.slice A2 s.tds.length k2) (.slice A3 n3 c3)) 110 (0, 0)) := by rw [hW]; exact blk_alloc (blk_alloc (blk_at _ (by simp)) _) _
    have gls : W.heap[w1.heap.size + 1 + 1 + 1 + 1]? = some (.cells (lossA x) 30 (0, 0)) := by rw [hW]; exact blk_alloc (blk_at _ (by simp)) _
    have gho : W.heap[w1.heap.size + 1 + 1 + 1 + 1 + 1]? = some (.cells #[iv (h - 1)] 3 (0, 0)) := by rw [hW]; exact blk_at _ (by simp)
    have hB1 : Below w1.heap.size w1 W := by rw [hW]; exact bl_alloc (bl_alloc (bl_alloc (bl_alloc (bl_alloc (bl_alloc (Below.refl _ _) _) _) _) _) _) _
    have hsz : W.heap.size = w1.heap.size + 1 + 1 + 1 + 1 + 1 + 1 := by rw [hW]; simp
    have g0 := blk_below G0.out hB1
    have hB := bl_step HB1.out hB1
    have hkW := HK.out.below hB1
    clear hW d0 d1 d2 d3 d4 d5 d6
    have hHD : ∀ V, Fix (fun b => b < W.heap.size ∧ b ≠ w1.heap.size + 1) W V → HoursD s (counting l known) f (.slice A1 s.hts.length k1) (.slice A2 s.tds.length k2) (.slice A3 n3 c3) x (h - 1) (w1.heap.size + 1 + 1 + 1 + 1) (w1.heap.size + 1 + 1 + 1 + 1 + 1) (w1.heap.size + 1 + 1 + 1) V := fun V hV =>
      ⟨hV.blk gls ⟨by omega, by omega⟩, hV.blk gho ⟨by omega, by omega⟩, hV.blk gsk ⟨by omega, by omega⟩, HK.out.below (hB1.trans ((hV.mono (K' := fun b => b < w1.heap.size) fun b _ hb => ⟨by omega, by omega⟩).to_below (by omega)))⟩
    have HB := Lib.hid hB
    have HZ := Lib.hid hsz
    have hs1 := HB1.out.size
    obtain ⟨VS, hVS⟩ : ∃ q, q = fun V => Sky s (counting l known) f (.slice A1 s.hts.length k1) (.slice A2 s.tds.length k2) (.slice A3 n3 c3) V := ⟨_, rfl⟩
    refine wp_iter0t (α := Int × Nat) (K := fun b => b < W.heap.size ∧ b ≠ w1.heap.size + 1) (callsAs_closure (enters_of Tryz.func145 (by kernel_rfl) rfl)) (hours_iter s (counting l known) f _ _ _ x (h - 1) _ _ _ _ W HFA.out.loss (by have := HFA.out.hour; omega) hHD) (Fix.refl _ _) (fun x => rfl) (fun b h => h.1)
      (fun (pre : List (Int × Nat)) V => LandMap (pre.foldl (landH s (counting l known) f) (fun _ => none)) (w1.heap.size + 1) (pre.length * 102400) V)
      (fun pre V V' h _ hf => h.fix hf (by omega)) gm ?_ ?_
    · rintro lp pre y V hlp1 hlp2 hsV hN hpre hfK
      gi_wp2
      refine ⟨bl_alloc (bl_alloc (Below.refl _ _) _) _, fun W2 hf2 hs2 hr2 => ?_⟩
      have e17 : W2.heap[V.heap.size]? = some (.cells #[iv y.1] 3 (0, 0)) := hf2.blk (blk_alloc (blk_new _ _) _) (by omega)
      have e18 : W2.heap[V.heap.size + 1]? = some (.cells (setA y.2) 115 (0, 0)) := hf2.blk (blk_at _ (by simp)) (by omega)
      have hfK2 : Fix (fun b => b < W.heap.size ∧ b ≠ w1.heap.size + 1) W W2 := ((hfK.alloc _).alloc _).trans (hf2.mono fun b hb hbk => by omega)
      have hm2 : LandMap (pre.foldl (landH s (counting l known) f) (fun _ => none)) (w1.heap.size + 1) (pre.length * 102400) W2 := (hN.below (bl_alloc (bl_alloc (Below.refl _ _) _) _)).fix hf2 (by omega)
      have hs3 : W2.heap.size = V.heap.size + 1 + 1 := by rw [← hs2]; simp
      have hy : y ∈ hoursTo s (counting l known) f x (hoursN x (h - 1)) := hpre.subset (by simp)
      clear hf2 hs2 hN
      obtain ⟨a0, a1, a2, a3, a4⟩ := set_cells e18
      have l18 := blk_lt e18
      gi_wp2_with fail
      obtain ⟨r2, hr2⟩ := hr2
      obtain ⟨L0, hL0⟩ : ∃ q, q = pre.foldl (landH s (counting l known) f) (fun _ => none) := ⟨_, rfl⟩
      rw [← hL0] at hm2
      have HPRE : Hid ((pre ++ [y]).foldl (landH s (counting l known) f) (fun _ => none) = landH s (counting l known) f L0 y) := by unfold Hid; rw [List.foldl_append, ← hL0]; rfl
      clear hL0
      have e16 : W2.heap[w1.heap.size + 1 + 1]? = some (.cells #[.map (some (w1.heap.size + 1))] 122 (0, 0)) := hfK2.blk g16 ⟨by omega, by omega⟩
      have e14 : W2.heap[w1.heap.size]? = some (.cells (skyA s f (.slice A1 s.hts.length k1) (.slice A2 s.tds.length k2) (.slice A3 n3 c3)) 110 (0, 0)) := hfK2.blk g14 ⟨by omega, by omega⟩
      have HEK : Hid (∀ V, Fix (fun b => b < W2.heap.size ∧ b ≠ w1.heap.size + 1) W2 V → Sky s (counting l known) f (.slice A1 s.hts.length k1) (.slice A2 s.tds.length k2) (.slice A3 n3 c3) V) := fun V hV => HK.out.below (hB1.trans (((hfK2.trans (hV.mono fun b _ hb => ⟨by omega, by omega⟩)).mono (K' := fun b => b < w1.heap.size) fun b _ hb => ⟨by omega, by omega⟩).to_below (by omega)))
      refine wp_iterNt (α := DPlace) (K := fun b => b < W2.heap.size ∧ b ≠ w1.heap.size + 1) (callsAs_method (enters_of Tryz.func82 (by kernel_rfl) rfl)) hr2 ((all_iter y.2 W2).wide (fun _ h => h.elim)) (Fix.refl _ _) (fun x => rfl) (fun b h => h.1)
        (fun (pp : List DPlace) V2 => LandMap (pp.foldl (landP s (counting l known) f y.1) L0) (w1.heap.size + 1) (pre.length * 102400 + pp.length * 320) V2)
        (fun pp V2 V2' h _ hf => h.fix hf (by omega)) (by simpa using hm2) ?_ ?_
      · rintro l2 pp p V2 hl21 hl22 hsV2 hN2 hpp hfK3
        gi_wp2
        refine ⟨bl_alloc (Below.refl _ _) _, fun W3 hf3 hs3' hr3 => ?_⟩
        have e19 : W3.heap[V2.heap.size]? = some (.cells #[iv p.c, iv p.b] 48 (0, 0)) := hf3.blk (blk_new _ _) (by omega)
        have hfK4 : Fix (fun b => b < W2.heap.size ∧ b ≠ w1.heap.size + 1) W2 W3 := (hfK3.alloc _).trans (hf3.mono fun b hb hbk => by omega)
        have hm3 : LandMap (pp.foldl (landP s (counting l known) f y.1) L0) (w1.heap.size + 1) (pre.length * 102400 + pp.length * 320) W3 := (hN2.below (bl_alloc (Below.refl _ _) _)).fix hf3 (by omega)
        have hs4 : W3.heap.size = V2.heap.size + 1 := by rw [← hs3']; simp
        have hp : p ∈ placesOf y.2 := hpp.subset (by simp)
        have l19 := blk_lt e19
        have c0 := blk_cell e19 0
        have c1 := blk_cell e19 1
        simp only [List.getElem?_toArray, List.getElem?_cons_zero, List.getElem?_cons_succ] at c0 c1
        obtain ⟨L1, hL1⟩ : ∃ q, q = pp.foldl (landP s (counting l known) f y.1) L0 := ⟨_, rfl⟩
        rw [← hL1] at hm3
        have HPP : Hid ((pp ++ [p]).foldl (landP s (counting l known) f y.1) L0 = landP s (counting l known) f y.1 L1 p) := by unfold Hid; rw [List.foldl_append, ← hL1]; rfl
        clear hL1
        by_cases hpb : p.b = 0
        · have hpb' : (p.b == 0) = true := by simp [hpb]
          have HQ : Hid (landP s (counting l known) f y.1 L1 p = L1) := if_pos hpb
          clear hpb
          gi_wp2
          refine ⟨?_, Fix.refl _ _⟩
          show LandMap (List.foldl (landP s (counting l known) f y.fst) L0 (pp ++ [p])) _ _ _
          rw [HPP.out, HQ.out]
          exact hm3.mono (by simp; omega)
        · have hpb' : (p.b == 0) = false := by simp [hpb]
          have HQ : Hid (landP s (counting l known) f y.1 L1 p = (placesOf (movesM s (counting l known) f p y.1)).foldl (landQ y.1) L1) := if_neg hpb
          clear hpb
          have f17 := hfK4.blk e17 ⟨by omega, by omega⟩
          have f14 := hfK4.blk e14 ⟨by omega, by omega⟩
          have f16 := hfK4.blk e16 ⟨by omega, by omega⟩
          obtain ⟨x0, x1, x2, x3, x4, x5⟩ := sky_cells f14
          have y0 := blk_cell f17 0
          simp only [List.getElem?_toArray, List.getElem?_cons_zero, List.getElem?_cons_succ] at y0
          have l17 := blk_lt f17
          have l14 := blk_lt f14
          have ek3 := HEK.out W3 hfK4
          gi_wp2_with fail
          have hyok : okM s y.2 ∧ (0 ≤ y.1 ∧ y.1 ≤ 1000000) := hours_of HFA.out.sea HFA.out.loss HFA.out.hour.2 hy
          refine (callsW.2 (moves_calls s (counting l known) f _ _ _ p y.1 W3 ek3 (hyok.1 p hp) ⟨hyok.2.1, by omega⟩)).mono ?_
          rintro e W4 ⟨rfl, hb4⟩
          have hb4' := hb4
          have hfK5 : Fix (fun b => b < W2.heap.size ∧ b ≠ w1.heap.size + 1) W2 W4 := hfK4.below hb4
          have hm4 := hm3.below hb4
          have hs5 := hb4.size
          have hmok : okM s (movesM s (counting l known) f p y.1) := movesM_ok _ _ _ HFA.out.sea (hyok.1 p hp)
          have hh2 : IntKind.i64.wrap (y.1 + 1) = y.1 + 1 := IntWalk.i64_in _ (by omega)
          obtain ⟨r3, hr3⟩ := hr3
          have hr4 := blk_below hr3 hb4
          have f17 := blk_below f17 hb4
          have f16 := blk_below f16 hb4
          clear x0 x1 x2 x3 x4 x5 y0 c0 c1 f14 e19 hb4 ek3
          obtain ⟨M, hM⟩ : ∃ M, M = movesM s (counting l known) f p y.1 := ⟨_, rfl⟩
          rw [← hM] at hmok HQ ⊢
          clear hM
          rw [setV_arr, setA]
          gi_wp2_with fail
          refine wp_iterNt (α := DPlace) (K := fun b => b < W4.heap.size ∧ b ≠ w1.heap.size + 1) (callsAs_method (enters_of Tryz.func82 (by kernel_rfl) rfl)) hr4 ((all_iter M W4).wide (fun _ h => h.elim)) (Fix.refl _ _) (fun x => rfl) (fun b h => h.1)
            (fun (qq : List DPlace) V4 => LandMap (qq.foldl (landQ y.1) L1) (w1.heap.size + 1) (pre.length * 102400 + pp.length * 320 + qq.length) V4)
            (fun qq V4 V4' h _ hf => h.fix hf (by omega)) (by simpa using hm4) ?_ ?_
          · rintro l3 qq q V4 hl31 hl32 hsV4 hN4 hqq hfK6
            gi_wp2
            refine ⟨bl_alloc (Below.refl _ _) _, fun W5 hf5 hs5' hr5 => ?_⟩
            have e20 : W5.heap[V4.heap.size]? = some (.cells #[iv q.c, iv q.b] 48 (0, 0)) := hf5.blk (blk_new _ _) (by omega)
            have hfK7 : Fix (fun b => b < W4.heap.size ∧ b ≠ w1.heap.size + 1) W4 W5 := (hfK6.alloc _).trans (hf5.mono fun b hb hbk => by omega)
            have hm5 : LandMap (qq.foldl (landQ y.1) L1) (w1.heap.size + 1) (pre.length * 102400 + pp.length * 320 + qq.length) W5 := (hN4.below (bl_alloc (Below.refl _ _) _)).fix hf5 (by omega)
            have hs6 : W5.heap.size = V4.heap.size + 1 := by rw [← hs5']; simp
            have hq := placeOk_bounds (hmok q (hqq.subset (by simp)))
            have hcb := seaOk_bounds HFA.out.sea
            have l20 := blk_lt e20
            obtain ⟨L2, hL2⟩ : ∃ z, z = qq.foldl (landQ y.1) L1 := ⟨_, rfl⟩
            rw [← hL2] at hm5
            have HQQ : Hid ((qq ++ [q]).foldl (landQ y.1) L1 = landQ y.1 L2 q) := by unfold Hid; rw [List.foldl_append, ← hL2]; rfl
            clear hL2
            have c0 := blk_cell e20 0
            have c1 := blk_cell e20 1
            simp only [List.getElem?_toArray, List.getElem?_cons_zero, List.getElem?_cons_succ] at c0 c1
            have hln : pre.length * 102400 + pp.length * 320 + qq.length < 1000000000000 := by
              have h1 := hpre.length_le; have h2 := hpp.length_le; have h3 := hqq.length_le; have h4 := places_len M; have h5 := places_len y.2
              have h6 : (hoursTo s (counting l known) f x (hoursN x (h - 1))).length ≤ 1000000 := by
                have hb := HFA.out.hour; have hc := (lossOk_bounds HFA.out.sea HFA.out.loss).2
                simp [hoursTo, hoursN]; omega
              simp at h1 h2 h3; omega
            by_cases hqb : q.b = 0
            · have hqb' : (q.b == 0) = true := by simp [hqb]
              obtain ⟨c, b0⟩ := q
              dsimp only at hqb hq
              subst hqb
              have hlook := hm5.look c (by omega) (by omega)
              have g17 := hfK7.blk f17 ⟨by omega, by omega⟩
              have g16' := hfK7.blk f16 ⟨by omega, by omega⟩
              have y0 := blk_cell g17 0
              have z0 := blk_cell g16' 0
              simp only [List.getElem?_toArray, List.getElem?_cons_zero, List.getElem?_cons_succ] at y0 z0
              have l17' := blk_lt g17
              have l16' := blk_lt g16'
              cases hLc : L2 c with
              | none =>
                have HQ3 : Hid (landQ y.1 L2 ⟨c, 0⟩ = landPut L2 c (y.1 + 1, y.1 + 1)) := by unfold Hid landQ; rw [if_pos rfl, hLc]; rfl
                rw [show landVal L2 c = .agg #[iv 0, iv 0, iv 0] by unfold landVal; rw [hLc]; rfl, hLc] at hlook
                have HS := Lib.hid (And.intro hs3 (And.intro hs4 hs6))
                have n1 : ¬ V.heap.size = W5.heap.size := by omega
                have HBM : Hid (w1.heap.size + 1 < W4.heap.size ∧ W4.heap.size ≤ W5.heap.size) := ⟨by omega, by omega⟩
                clear hLc hs3 hs4 hs6
                gi_wp2_with (first | (gi_at_mapUpdate; refine wpListIn_land _ rfl _ _ _ rfl L2 (w1.heap.size + 1) _ rfl (hm5.alloc _) (by unfold maxLen; omega) c (y.1 + 1) (y.1 + 1) rfl rfl (by omega) (by omega) ?_; intro w6 hm6 hg6; have HM6 := Lib.hid hm6; have HG6 := Lib.hid hg6; clear hm6 hg6))
                refine ⟨?_, ((Fix.refl _ _).alloc _).grown HG6.out (fun b hb hlt hk => ?_)⟩
                · show LandMap (List.foldl (landQ y.1) L1 (qq ++ [⟨c, 0⟩])) _ _ _
                  rw [HQQ.out, HQ3.out]
                  exact HM6.out.mono (by simp; omega)
                · have hbm := HBM.out
                  simp only [Option.some.injEq] at hb
                  omega
              | some z =>
                obtain ⟨a, b⟩ := z
                have HQ3 : Hid (landQ y.1 L2 ⟨c, 0⟩ = landPut L2 c (a, y.1 + 1)) := by unfold Hid landQ; rw [if_pos rfl, hLc]; rfl
                rw [show landVal L2 c = .agg #[iv c, iv a, iv b] by unfold landVal; rw [hLc]; rfl, hLc] at hlook
                have HS := Lib.hid (And.intro hs3 (And.intro hs4 hs6))
                have n1 : ¬ V.heap.size = W5.heap.size := by omega
                have HBM : Hid (w1.heap.size + 1 < W4.heap.size ∧ W4.heap.size ≤ W5.heap.size) := ⟨by omega, by omega⟩
                clear hLc hs3 hs4 hs6
                gi_wp2_with (first | (gi_at_mapUpdate; refine wpListIn_land _ rfl _ _ _ rfl L2 (w1.heap.size + 1) _ rfl (hm5.alloc _) (by unfold maxLen; omega) c a (y.1 + 1) rfl rfl (by omega) (by omega) ?_; intro w6 hm6 hg6; have HM6 := Lib.hid hm6; have HG6 := Lib.hid hg6; clear hm6 hg6))
                refine ⟨?_, ((Fix.refl _ _).alloc _).grown HG6.out (fun b hb hlt hk => ?_)⟩
                · show LandMap (List.foldl (landQ y.1) L1 (qq ++ [⟨c, 0⟩])) _ _ _
                  rw [HQQ.out, HQ3.out]
                  exact HM6.out.mono (by simp; omega)
                · have hbm := HBM.out
                  simp only [Option.some.injEq] at hb
                  omega
            · have hqb' : (q.b == 0) = false := by simp [hqb]
              have HQ3 : Hid (landQ y.1 L2 q = L2) := if_neg hqb
              clear hqb
              gi_wp2
              refine ⟨?_, Fix.refl _ _⟩
              show LandMap (List.foldl (landQ y.1) L1 (qq ++ [q])) _ _ _
              rw [HQQ.out, HQ3.out]
              exact hm5.mono (by simp <;> omega)
          · intro V4 hV4 hf4
            refine ⟨?_, ?_⟩
            · show LandMap (List.foldl (landP s (counting l known) f y.fst) L0 (pp ++ [p])) _ _ _
              rw [HPP.out, HQ.out]
              exact hV4.mono (by have := places_len M; simp; omega)
            · exact ((Fix.of_below hb4').trans (hf4.mono (K' := fun b => b ≠ w1.heap.size + 1 ∧ b < W4.heap.size) fun b hb hbk => ⟨hbk.2, hbk.1⟩)).mono fun b hb hbk => ⟨by rcases hbk with h | h <;> omega, by omega⟩
      · intro V2 hV2 hf3
        have hfin := hV2.mono (m := (pre ++ [y]).length * 102400) (by have := places_len y.2; simp; omega)
        have hq := HPRE.out
        unfold landH at hq
        rw [← hq] at hfin
        exact ⟨hfin, hf3.mono fun b hb hbk => ⟨hb, by omega⟩⟩
    · intro V hN hsV hfK hDf
      obtain ⟨L, hL⟩ : ∃ q, q = landAll s (counting l known) f x h := ⟨_, rfl⟩
      have hm : LandMap L (w1.heap.size + 1) ((hoursTo s (counting l known) f x (hoursN x (h - 1))).length * 102400) V := by rw [hL]; exact hN
      rw [← hL] at HR
      obtain ⟨nn, hnn⟩ : ∃ q, q = (hoursTo s (counting l known) f x (hoursN x (h - 1))).length * 102400 := ⟨_, rfl⟩
      rw [← hnn] at hm
      have e16 := hfK.blk g16 ⟨by omega, by omega⟩
      have e0 := hfK.blk g0 ⟨by omega, by omega⟩
      have hBV : Below w.heap.size w V := bl_fix (N := w1.heap.size) hB (Nat.le_refl _) (by omega) (hfK.mono fun b _ hb => ⟨by omega, by omega⟩)
      have E16 := Lib.hid e16
      have E0 := Lib.hid e0
      have HM := Lib.hid hm
      have HDF := Lib.hid hDf
      have HBV := Lib.hid hBV
      have hcb := seaOk_bounds HFA.out.sea
      have a0 := blk_cell e0 0
      simp only [List.getElem?_toArray, List.getElem?_cons_zero, List.getElem?_cons_succ] at a0
      have l0 := blk_lt e0
      have HLTS : Hid (w1.heap.size + 1 + 1 < V.heap.size ∧ W.heap.size < V.heap.size ∧ w.heap.size ≤ V.heap.size ∧ w.heap.size ≤ W.heap.size) := ⟨by omega, blk_lt hDf, by omega, by omega⟩
      obtain ⟨N, hNN⟩ : ∃ N : Nat, s.cells = (N : Int) := ⟨s.cells.toNat, by omega⟩
      clear hL hN hnn e16 e0 hBV hDf hfK gm g0 g14 g16 gsk gls gho hB hB1 hkW hHD hsz hs1 hcb l1' l1 hh1
      go_wp2_with fail
      go_loopg [23, 84] N (fun n u i wr => ∃ k : Nat, k ≤ N ∧ n = N - k ∧ i = .int .i64 k ∧ Hid (Own DLand.cs 3 86 V.heap.size wr u (landTo L k)) ∧ Hid (Below V.heap.size V wr))
      case atStart => exact ⟨0, by omega, by omega, rfl, Own.nil _ _, Below.refl _ _⟩
      case round =>
        obtain ⟨k, hk, hn, rfl, HO, HBR⟩ := hrel
        have hm := HM.out.below HBR.out
        have e16 := blk_below E16.out HBR.out
        have z0 := blk_cell e16 0
        simp only [List.getElem?_toArray, List.getElem?_cons_zero, List.getElem?_cons_succ] at z0
        have l16 := blk_lt e16
        have hsw := HBR.out.size
        have hcb := seaOk_bounds HFA.out.sea
        have hN40 : N ≤ 40 := by omega
        have HNN := Lib.hid hNN
        by_cases hlt : k < N
        · have hlt' : (k : Int) < s.cells := by omega
          have hk40 : k ≤ 40 := by omega
          have hlook := hm.look (k : Int) (by omega) (by omega)
          have hpl := landTo_len L k
          obtain ⟨pl, hple⟩ : ∃ q, q = landTo L k := ⟨_, rfl⟩
          cases hLc : L (k : Int) with
          | none =>
            have HT : Hid (landTo L (k + 1) = landTo L k) := landTo_no hLc
            rw [show landVal L k = .agg #[iv 0, iv 0, iv 0] by unfold landVal; rw [hLc]; rfl, hLc] at hlook
            clear hLc hNN hcb hple hm
            go_wp2_with fail
            go_roundg (N - (k + 1))
            case measure => omega
            case rel => exact ⟨k + 1, by omega, rfl, by go_num, by unfold Hid; rw [HT.out]; exact HO.out.alloc _, bl_alloc HBR.out _⟩
          | some z =>
            obtain ⟨a, b⟩ := z
            have HT : Hid (landTo L (k + 1) = pl ++ [⟨(k : Int), a, b⟩]) := by rw [hple]; exact landTo_yes hLc
            rw [show landVal L k = .agg #[iv k, iv a, iv b] by unfold landVal; rw [hLc]; rfl, hLc] at hlook
            rw [← hple] at HO hpl
            clear hLc hNN hcb hple hm
            go_wp2_with (at_builtin; refine wp_push (cs := DLand.cs) (base := V.heap.size) rfl _ _ _ rfl (.agg #[iv 0, iv 0, iv 0]) 24 Tryz.underlying40 info86 rfl (by decide) u23 pl ⟨(k : Int), a, b⟩ rfl ((HO.out.alloc _).alloc _) (wr.heap.size + 1) 1 1 rfl rfl (0, 0) 86 (blk_at _ (by simp)) rfl (by intro u hu; simp [DLand.cs] at hu; rcases hu with rfl | rfl | rfl <;> rfl) (by omega) (by decide) (by simp; omega) ?_; intro v' W4 hown' hgrow; have HO4 := Lib.hid hown'; have HB4 := Lib.hid (bl_push (bl_alloc (bl_alloc HBR.out _) _) ((HO.out.alloc _).alloc _) hgrow (Nat.le_refl _) (by simp; omega)); clear hown' hgrow)
            go_roundg (N - (k + 1))
            case measure => omega
            case rel => exact ⟨k + 1, by omega, rfl, by go_num, by unfold Hid; rw [HT.out]; exact HO4.out, HB4.out⟩
        · obtain rfl : k = N := by omega
          have hnl : ¬ (k : Int) < s.cells := by omega
          have HRR : Hid (landOf L s.cells = landTo L k) := by unfold Hid landOf landTo ints; rw [hNN]; congr 2; omega
          clear hNN hcb hm
          go_wp2
          refine end_mark (D := W.heap.size) (.tuple #[u23, iv (errAsk s l x f none h)]) rfl (blk_below HDF.out HBR.out) ?_ ?_
          · intro U hU
            rw [HE.out]
            simp [results, Tryz.results26, go_sem]
          · intro U hU
            have hls := HLTS.out
            refine ⟨u23, rfl, ?_, bl_fix (N := W.heap.size) (bl_step HBV.out HBR.out) (Nat.le_refl _) (by omega) (hU.mono fun b _ hb => by omega)⟩
            rw [HR.out, HRR.out]
            refine (HO.out.fix hU (fun b hb hD => ?_)).mono (by omega)
            have := (HO.out.lt b hb).1
            omega
  · have HC := Lib.hid (asked_bad s l x known f h _ _ vl _ hf (h1.below hbW) (h2.below hbW) (h3.below hbW))
    have HR : Hid (landL s l known f x h = []) := if_neg he
    obtain ⟨er, her⟩ : ∃ q, q = errAsk s l x f none h := ⟨_, rfl⟩
    rw [← her] at he HC ⊢
    have h0' : (er != 0) = true := by simp [bne, he]
    clear he h1 h2 h3 hbW her
    go_enter Tryz.func26, Tryz.ntmps26
    go_wp2_with fail
    refine HC.out.mono ?_
    rintro e w1 ⟨q0, q1, B2, n2, c2, B3, n3, c3, B4, n4, c4, q5, rfl, hb1⟩
    have HB1 := Lib.hid (bl_step HBW.out hb1)
    clear hb1
    go_wp2_with fail
    refine bodyPost_ret (v := .tuple #[.slice none 0 0, iv er]) (by simp [results, Tryz.results26, go_sem]) rfl ⟨_, rfl, ?_, bl_alloc HB1.out _⟩
    rw [HR.out]
    exact Own.nil _ _
end Go.Proofs.YtjekioabkmijbaaGreatDoor
