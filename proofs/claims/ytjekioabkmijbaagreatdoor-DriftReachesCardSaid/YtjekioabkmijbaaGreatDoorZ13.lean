
import Derived.Test.YtjekioabkmijbaaGreatDoorZ12
import Derived.Test.YtjekioabkmijbaaGreatDoorZ09
set_option linter.unusedVariables false
set_option linter.unusedSimpArgs false
namespace Go.Proofs.YtjekioabkmijbaaGreatDoor
open Go.RowKit Go.Shelf
attribute [local go_sem] Oper.semAt_some
def hoursTo (s : DSea) (ws : List DWind) (f : Int) (x : DLoss) (k : Nat) : List (Int × Nat) := (List.range k).map fun (j : Nat) => (x.hl + (j : Int), setAt s ws f x j)
theorem hoursTo_succ (s : DSea) (ws : List DWind) (f : Int) (x : DLoss) (k : Nat) : hoursTo s ws f x (k + 1) = hoursTo s ws f x k ++ [(x.hl + (k : Int), setAt s ws f x k)] := by simp [hoursTo, List.range_succ]
theorem hoursTo_prefix (s : DSea) (ws : List DWind) (f : Int) (x : DLoss) (k : Nat) : ∀ d, hoursTo s ws f x k <+: hoursTo s ws f x (k + d)
  | 0 => List.prefix_refl _
  | d + 1 => (hoursTo_prefix s ws f x k d).trans (by rw [← Nat.add_assoc, hoursTo_succ]; exact List.prefix_append _ _)
def hoursN (x : DLoss) (h : Int) : Nat := (h + 1 - x.hl).toNat
def HoursD (s : DSea) (ws : List DWind) (f : Int) (vh vt vw : Value) (x : DLoss) (h : Int) (g1 g2 g3 : Nat) (V : World) : Prop :=
  V.heap[g1]? = some (.cells (lossA x) 30 (0, 0)) ∧ V.heap[g2]? = some (.cells #[iv h] 3 (0, 0)) ∧ V.heap[g3]? = some (.cells (skyA s f vh vt vw) 110 (0, 0)) ∧ Sky s ws f vh vt vw V
theorem lossOk_bounds {s : DSea} {x : DLoss} (hs : seaOk s = true) (h : lossOk s x = true) : (0 ≤ x.cl ∧ x.ch ≤ 39 ∧ 0 ≤ x.bl ∧ x.bh ≤ 6) ∧ 0 ≤ x.hl ∧ x.hl ≤ 1000000 := by
  have hb := seaOk_bounds hs
  unfold lossOk rangeOk at h; simp only [Bool.and_eq_true, decide_eq_true_eq] at h
  omega
theorem wp_abs_post {Q : Exit → Act → World → Prop} {e : Exit} {a : Act} {w : World} (h : ∀ W, W = w → Q e a W) : Q e a w := h w rfl
theorem setAt_succ (s : DSea) (ws : List DWind) (f : Int) (x : DLoss) (k : Nat) : setAt s ws f x (k + 1) = nextM s ws f (setAt s ws f x k) (x.hl + k) ||| begunM x (x.hl + k + 1) := rfl
set_option maxHeartbeats 1000000 in
set_option maxRecDepth 20000 in
theorem hours_iter (s : DSea) (ws : List DWind) (f : Int) (vh vt vw : Value) (x : DLoss) (h : Int) (g1 g2 g3 : Nat) (K : Nat → Prop) (w : World) (hx : lossOk s x = true) (hh : h ≤ 1000000)
    (hd : ∀ W, Fix K w W → HoursD s ws f vh vt vw x h g1 g2 g3 W) :
    Iter Tryz.prog 145 (fun y => #[y] ++ #[.pointer (some ⟨g1, 0, none⟩), .pointer (some ⟨g2, 0, none⟩), .pointer (some ⟨g3, 0, none⟩)]) (fun p : Int × Nat => #[iv p.1, setV p.2]) (hoursTo s ws f x (hoursN x h)) K w := by
  intro lp J Jx W0 hw0 hJ hJE hJx hJS hY h0
  have hF : ∀ f, Fence.wide.fn f := fun _ => trivial
  have hD : Fence.wide.depth = none := rfl
  have H1 := Lib.hid hJ
  have H2 := Lib.hid hJS
  have H3 := Lib.hid hY
  have H5 := Lib.hid hJE
  have HW := Lib.hid hw0
  have H0 : Hid (J (fun _ => False) [] W0) := h0
  have Hd := Lib.hid hd
  obtain ⟨q1, q2, q3, hk0⟩ := hd W0 hw0
  have hsea := hk0.sea
  obtain ⟨hxb, hx1, hx2⟩ := lossOk_bounds hsea hx
  have HX := Lib.hid hx
  have HXB := Lib.hid hxb
  have HSEA := Lib.hid hsea
  have a0 := blk_cell q1 0
  have a1 := blk_cell q1 1
  have a2 := blk_cell q1 2
  have a3 := blk_cell q1 3
  have a4 := blk_cell q1 4
  have a5 := blk_cell q1 5
  have a6 := blk_cell q1 6
  have b0 := blk_cell q2 0
  simp only [List.getElem?_toArray, List.getElem?_cons_zero, List.getElem?_cons_succ] at a0 a1 a2 a3 a4 a5 a6 b0
  have l1 := blk_lt q1
  clear hJ hJS hY hJE hJx h0 hd hw0 q1 q2 q3 hk0 hx hxb hsea
  refine callsIn_of_wp (F := FW none) Tryz.func145 rfl trivial ?_
  simp only [Tryz.ntmps145, List.size_toArray, List.length_cons, List.length_nil, Nat.reduceAdd, Nat.reduceSub, Array.replicate_succ, Array.replicate_zero, List.push_toArray, List.append_toArray, List.nil_append, List.cons_append]
  gi_wp2_with fail
  refine (callsW.2 (begun_calls x x.hl W0 HXB.out)).mono ?_
  rintro e w1 ⟨rfl, hb1⟩
  have HW1 : Hid (Fix K w w1) := HW.out.below hb1
  have HJ1 : Hid (J (fun _ => False) [] w1) := H1.out _ _ _ _ H0.out (Fix.of_below hb1)
  have hs1 := hb1.size
  obtain ⟨q1, q2, q3, hk0⟩ := Hd.out w1 HW1.out
  replace a5 := blk_cell q1 5
  simp only [List.getElem?_toArray, List.getElem?_cons_zero, List.getElem?_cons_succ] at a5
  replace l1 := blk_lt q1
  clear a0 a1 a2 a3 a4 a6 b0 hb1 q1 q2 q3 hk0
  gi_wp2_with fail
  clear a5
  gi_loopg [6] (hoursN x h) (fun n i wr => ∃ k : Nat, k ≤ hoursN x h ∧ n = hoursN x h - k ∧ i = .int .i64 (x.hl + k) ∧ wr.heap[w1.heap.size]? = some (.cells (setA (setAt s ws f x k)) 115 (0, 0)) ∧ Hid (Fix K w wr) ∧ Hid (J (fun b => b = w1.heap.size) (hoursTo s ws f x k) wr))
  case atStart =>
    exact ⟨0, by omega, by omega, by simp, blk_new _ _, HW1.out.alloc _, H1.out _ _ _ _ (H5.out _ _ _ _ HJ1.out (fun b h => .inr (Nat.le_of_eq h.symm))) (Fix.of_below (bl_alloc (Below.refl _ _) _))⟩
  case round =>
    obtain ⟨k, hk, hn, rfl, hq, HK, HJ⟩ := hrel
    obtain ⟨q1, q2, q3, hk0⟩ := Hd.out wr HK.out
    have b0 := blk_cell q2 0
    simp only [List.getElem?_toArray, List.getElem?_cons_zero, List.getElem?_cons_succ] at b0
    obtain ⟨e0, e1, e2, e3, e4⟩ := set_cells hq
    have HQ := Lib.hid hq
    have l2 := blk_lt hq
    clear hq
    by_cases hlt : k < hoursN x h
    · have hle : x.hl + k ≤ h := by unfold hoursN at hlt; omega
      obtain ⟨fn, tmps, assign, body, hy, hR⟩ := H3.out (fun b => b = w1.heap.size) (hoursTo s ws f x k) (x.hl + (k : Int), setAt s ws f x k) wr (fun b h => ⟨by omega, by omega⟩) HJ.out (by rw [← hoursTo_succ]; have := hoursTo_prefix s ws f x (k + 1) (hoursN x h - (k + 1)); rwa [show k + 1 + (hoursN x h - (k + 1)) = hoursN x h by omega] at this)
      dsimp only at hy
      gi_wp2
      refine hR.mono ?_
      rintro e W2 (⟨rfl, hJ2, hk2⟩ | ⟨rfl, hJx2⟩)
      · have HJ2 : Hid (J (fun b => b = w1.heap.size) (hoursTo s ws f x (k + 1)) W2) := by rw [hoursTo_succ]; exact hJ2
        have HK2 : Hid (Fix K w W2) := HK.out.trans (hk2.mono fun b _ h => .inr h)
        have hq2 : W2.heap[w1.heap.size]? = _ := hk2.blk HQ.out (.inl rfl)
        have HQ2 := Lib.hid hq2
        clear hJ2 hk2 hR hy b0 e0 e1 e2 e3 e4 q1 q2 q3 hk0 HJ HK HQ l2
        gi_wp2
        obtain ⟨q1, q2, q3, hk0⟩ := Hd.out W2 HK2.out
        have HK0 := Lib.hid hk0
        have a0 := blk_cell q1 0
        have a1 := blk_cell q1 1
        have a2 := blk_cell q1 2
        have a3 := blk_cell q1 3
        have a4 := blk_cell q1 4
        have a5 := blk_cell q1 5
        have a6 := blk_cell q1 6
        have c0 := blk_cell q3 0
        have c1 := blk_cell q3 1
        have c2 := blk_cell q3 2
        have c3 := blk_cell q3 3
        have c4 := blk_cell q3 4
        have c5 := blk_cell q3 5
        simp only [skyA, List.getElem?_toArray, List.getElem?_cons_zero, List.getElem?_cons_succ] at a0 a1 a2 a3 a4 a5 a6 c0 c1 c2 c3 c4 c5
        obtain ⟨e0, e1, e2, e3, e4⟩ := set_cells hq2
        have l1 := blk_lt q1
        have l3 := blk_lt q3
        have l5 := blk_lt hq2
        have n1 : ¬ g1 = w1.heap.size := fun h => by rw [← h, q1] at hq2; simp at hq2
        have n3 : ¬ g3 = w1.heap.size := fun h => by rw [← h, q3] at hq2; simp at hq2
        have ea : IntKind.i64.wrap (x.hl + (k : Int) + 1) = x.hl + (k : Int) + 1 := IntWalk.i64_in _ ⟨by omega, by omega⟩
        clear q1 q2 q3 hk0 hq2
        refine wpIn_wide.2 (wp_region_held_drew (S := Save w1.heap.size W2) (by kernel_rfl) (fun _ _ _ _ => rfl) (fun hHeld => ?_))
        refine wpAnyH_take (i := 0) (v := .agg #[iv s.cells, iv s.bands, vh, vt, vw, iv f]) rfl (by kernel_rfl) (by kernel_rfl) (by kernel_rfl) (fun _ _ _ h => h) (Or.inl ⟨by rfl, ?_⟩) (by assumption) ?_
        · intro U hSw; (try dsimp only at hSw); (try unfold Save at hSw); go_simp
        try simp only [Act.put, List.setIfInBounds_toArray, List.set_cons_zero, List.set_cons_succ]
        refine wpAnyH_take (i := 2) (v := iv (x.hl + k)) rfl (by kernel_rfl) (by kernel_rfl) (by kernel_rfl) (fun _ _ _ h => h) (Or.inl ⟨by rfl, ?_⟩) (by assumption) ?_
        · intro U hSw; (try dsimp only at hSw); (try unfold Save at hSw); go_simp
        try simp only [Act.put, List.setIfInBounds_toArray, List.set_cons_zero, List.set_cons_succ]
        refine wpAnyH_take (i := 4) (v := lossV x) rfl (by kernel_rfl) (by kernel_rfl) (by kernel_rfl) (fun _ _ _ h => h) (Or.inl ⟨by rfl, ?_⟩) (by assumption) ?_
        · intro U hSw; (try dsimp only at hSw); (try unfold Save at hSw); go_simp
        try simp only [Act.put, List.setIfInBounds_toArray, List.set_cons_zero, List.set_cons_succ]
        refine wpAnyH_take (i := 5) (v := iv (x.hl + k)) rfl (by kernel_rfl) (by kernel_rfl) (by kernel_rfl) (fun _ _ _ h => h) (Or.inl ⟨by rfl, ?_⟩) (by assumption) ?_
        · intro U hSw; (try dsimp only at hSw); (try unfold Save at hSw); go_simp
        try simp only [Act.put, List.setIfInBounds_toArray, List.set_cons_zero, List.set_cons_succ]
        refine wpAnyH_take (i := 6) (v := iv (x.hl + k + 1)) rfl (by kernel_rfl) (by kernel_rfl) (by kernel_rfl) (fun _ _ _ h => h) (Or.inl ⟨by rfl, ?_⟩) (by assumption) ?_
        · intro U hSw; (try dsimp only at hSw); (try unfold Save at hSw); go_simp
        try simp only [Act.put, List.setIfInBounds_toArray, List.set_cons_zero, List.set_cons_succ]
        refine wpAnyH_ready (rs := [1]) (by kernel_rfl) (by simp) ?_
        refine AllReadyH.cons rfl (fun K' hK' => ?_) AllReadyH.nil
        go_simp
        refine hK'.out _ _ hHeld (fun hHeld => ?_)
        clear hK' K'
        try simp only [Act.put, List.setIfInBounds_toArray, List.set_cons_zero, List.set_cons_succ]
        refine wpAnyH_ready (rs := [3]) (by kernel_rfl) (by simp) ?_
        refine AllReadyH.cons rfl (fun K' hK' => ?_) AllReadyH.nil
        go_simp
        refine (next_calls s ws f vh vt vw (setAt s ws f x k) (x.hl + k) W2.drew (HK0.out.below (Below.refl _ _).drew) (setAt_ok ws f HSEA.out HX.out k) ⟨by omega, by omega⟩).mono ?_
        rintro e W3 ⟨rfl, hb3'⟩
        have hb3 : Below W2.heap.size W2 W3 := (Below.refl W2.heap.size W2).drew.trans hb3'
        refine hK'.out _ _ (save_below hb3) (fun hHeld => ?_)
        clear hK' K'
        try simp only [Act.put, List.setIfInBounds_toArray, List.set_cons_zero, List.set_cons_succ]
        refine wpAnyH_ready (rs := [7]) (by kernel_rfl) (by simp) ?_
        refine AllReadyH.cons rfl (fun K' hK' => ?_) AllReadyH.nil
        go_simp
        refine (begun_calls x (x.hl + k + 1) W3 HXB.out).mono ?_
        rintro e W4 ⟨rfl, hb4'⟩
        have hb4 : Below W2.heap.size W2 W4 := hb3.trans (hb4'.mono hb3.size)
        refine hK'.out _ _ (save_below hb4) (fun hHeld => ?_)
        clear hK' K'
        try simp only [Act.put, List.setIfInBounds_toArray, List.set_cons_zero, List.set_cons_succ]
        refine wpAnyH_ready (rs := [8]) (by kernel_rfl) (by simp) ?_
        refine AllReadyH.cons rfl (fun K' hK' => ?_) AllReadyH.nil
        go_simp
        refine (joined_calls (nextM s ws f (setAt s ws f x k) (x.hl + k)) (begunM x (x.hl + k + 1)) W4).mono ?_
        rintro e W5 ⟨rfl, hb5'⟩
        have hb5 : Below W2.heap.size W2 W5 := hb4.trans (hb5'.mono hb4.size)
        refine hK'.out _ _ (save_below hb5) (fun hHeld => ?_)
        clear hK' K'
        try simp only [Act.put, List.setIfInBounds_toArray, List.set_cons_zero, List.set_cons_succ]
        obtain ⟨e0', e1', e2', e3', e4'⟩ := set_cells (blk_below HQ2.out hb5)
        obtain ⟨f0', f1', f2', f3', f4'⟩ := five_frozen (blk_below HQ2.out hb5)
        clear e0 e1 e2 e3 e4 a0 a1 a2 a3 a4 a5 a6 c0 c1 c2 c3 c4 c5
        refine wpAnyH_ready (rs := [9]) (by kernel_rfl) (by simp) ?_
        refine AllReadyH.cons rfl (fun K' hK' => ?_) AllReadyH.nil
        go_simp
        refine hK'.out _ _ (save_five hb5) (fun hHeld5 => ?_)
        clear hK' K'
        refine wpAnyH_done (by kernel_rfl) ?_ _
        refine wp_abs_post (fun W6 hW6 => ?_)
        have hF6 : Fix (fun b => ¬ b = w1.heap.size) W2 W6 := by rw [hW6]; exact fix_five (Fix.of_below hb5) (fun h => h rfl) _ _ _ _ _
        have hq6 : W6.heap[w1.heap.size]? = some (.cells (setA (setAt s ws f x (k + 1))) 115 (0, 0)) := by rw [hW6, setAt_succ]; exact blk_set5 (blk_below HQ2.out hb5) _ _ _ _ _
        have HJ6 : Hid (J (fun b => b = w1.heap.size) (hoursTo s ws f x (k + 1)) W6) := H1.out _ _ _ _ HJ2.out hF6
        have HK6 : Hid (Fix K w W6) := by
          have h2 := HK2.out
          have hw := HW1.out.size
          exact ⟨hF6.os.trans h2.os, hF6.tape.trans h2.tape, hF6.output.trans h2.output, Nat.le_trans h2.size hF6.size, fun b hb hk => (hF6.block b (Nat.lt_of_lt_of_le hb h2.size) (by omega)).trans (h2.block b hb hk)⟩
        clear hW6 hF6 hHeld5 hHeld hb5 hb5' hb4 hb4' hb3 hb3' e0' e1' e2' e3' e4' f0' f1' f2' f3' f4'
        gi_wp2
        gi_roundg (hoursN x h - (k + 1))
        case measure => omega
        case rel => exact ⟨k + 1, by omega, rfl, by go_num, hq6, HK6, HJ6⟩
      · have HXJ : Hid _ := H2.out (fun _ => False) _ _ _ hJx2 (fun b h => h.elim)
        have HP : Hid (hoursTo s ws f x k ++ [(x.hl + (k : Int), setAt s ws f x k)] <+: hoursTo s ws f x (hoursN x h)) := by rw [← hoursTo_succ]; have := hoursTo_prefix s ws f x (k + 1) (hoursN x h - (k + 1)); rwa [show k + 1 + (hoursN x h - (k + 1)) = hoursN x h by omega] at this
        clear hJx2 hR hy
        gi_wp2
        refine bodyPost_ret (v := .tuple #[]) (by simp [results, go_sem]) rfl ?_
        exact ⟨⟨_, rfl⟩, .inr ⟨_, HP, HXJ⟩⟩
    · have hgt : ¬ x.hl + k ≤ h := by unfold hoursN at hlt; omega
      obtain rfl : k = hoursN x h := by omega
      gi_wp2
      go_end0
      exact ⟨⟨_, rfl⟩, .inl (H5.out _ _ _ _ HJ.out (fun b h => h.elim))⟩
theorem hours_calls (s : DSea) (f : Int) (vh vt vw : Value) (x : DLoss) (h : Int) (w : World) :
    Calls Tryz.prog 83 #[.agg #[iv s.cells, iv s.bands, vh, vt, vw, iv f], lossV x, iv h] w fun e w' => e = .returned (.func (.func 145) #[] #[.pointer (some ⟨w.heap.size + 1, 0, none⟩), .pointer (some ⟨w.heap.size + 1 + 1, 0, none⟩), .pointer (some ⟨w.heap.size, 0, none⟩)]) ∧
      w' = ((w.alloc (.cells (skyA s f vh vt vw) 110)).alloc (.cells (lossA x) 30)).alloc (.cells #[iv h] 3) := by
  go_enter Tryz.func83, Tryz.ntmps83
  go_wp2
  go_ret
  exact ⟨rfl, rfl⟩
end Go.Proofs.YtjekioabkmijbaaGreatDoor
set_option linter.unusedVariables false
set_option linter.unusedSimpArgs false
namespace Go.Proofs.YtjekioabkmijbaaGreatDoor
open Go.RowKit Go.Shelf
attribute [local go_sem] Oper.semAt_some
theorem Own.isCells {α : Type} {cs : α → List Value} {k e base : Nat} {V : World} {v : Value} {xs : List α} (h : Own cs k e base V v xs) {b : Nat} (hb : v.ownBlock = some b) : ∃ cur, V.heap[b]? = some (.cells cur e (0, 0)) := by
  rcases h.2 with ⟨rfl, _⟩ | ⟨g, cap, cur, rfl, hg, hh, r⟩
  · simp [Value.ownBlock] at hb
  · simp [Value.ownBlock] at hb; subst hb; exact ⟨_, hh⟩
set_option maxHeartbeats 1000000 in
set_option maxRecDepth 20000 in
theorem appendSeq_calls {gf : Nat} {mk : Value → Array Value} {K : Nat → Prop} (xs : List DPlace) (fv : Value) (w0 w : World) (hcall : ∀ (a : Act) (g : Operand) (l : Nat) (W : World), a.eval g = fv → ∃ d, (resolve a.eval (rangeCall g l) 0).run Tryz.prog W = .ok d W ∧ (invoke d.target d.args).run Tryz.prog W = .ok (.enter gf (mk (.func (.yield l) #[] #[]))) W) (hit : Iter Tryz.prog gf mk (fun p => #[placeV p]) xs K w0) (hw : Fix K w0 w) (hK : ∀ b, K b → b < w.heap.size) (hlen : xs.length ≤ 1000000) :
    Calls Tryz.prog 170 #[.slice none 0 0, fv] w fun e w' => ∃ v, e = .returned v ∧ Own DPlace.cs 2 48 w.heap.size w' v xs ∧ Below w.heap.size w w' := by
  have hF : ∀ f, Fence.wide.fn f := fun _ => trivial
  have hD : Fence.wide.depth = none := rfl
  refine callsW.1 (callsIn_of_wp_marks (F := FW none) (n := 0) Tryz.func170 rfl trivial (wpIn_wide.2 ?_))
  simp only [Tryz.ntmps170, List.size_toArray, List.length_cons, List.length_nil, Nat.reduceAdd, Nat.reduceSub, Array.replicate_succ, Array.replicate_zero, List.push_toArray, List.append_toArray, List.nil_append, List.cons_append]
  go_wp2_with fail
  refine wp_abs (fun W hW => ?_)
  have b0 : W.heap[w.heap.size]? = some (.cells #[.slice none 0 0] 34 (0, 0)) := by rw [hW]; exact blk_new _ _
  have hB : Below w.heap.size w W := by rw [hW]; exact bl_alloc (Below.refl _ _) _
  have hsz : W.heap.size = w.heap.size + 1 := by rw [hW]; simp
  clear hW
  have hG : Gath DPlace.cs 2 48 W.heap.size w.heap.size 34 w (fun _ => False) [] W := ⟨⟨_, b0, Own.nil _ _, fun _ _ h => h⟩, fun h => h, fun _ h => h.elim, by omega, Nat.le_refl _, hB⟩
  have HB := Lib.hid hB
  have HK := Lib.hid hK
  refine wp_iter0 (α := DPlace) hcall hit (hw.below hB) (fun x => rfl) (fun b h => by have := hK b h; omega)
    (fun X pre V => Gath DPlace.cs 2 48 W.heap.size w.heap.size 34 w X pre V)
    (fun cd X pre V => False)
    (fun X pre V V' h hf => h.fix (by omega) hf) (fun X X' pre V h hx => h.ext hx) (fun _ _ _ _ _ h _ => h) (fun _ _ _ _ _ h _ => h) hG ?_ ?_ ?_
  · rintro lp Y pre x V hlp hY hr hN hx hfK
    gi_wp2
    refine ⟨Fix.of_below (bl_alloc (Below.refl _ _) _), fun W2 hf2 hs2 hr2 => ?_⟩
    obtain ⟨⟨v, h1, h2, h3⟩, h4, h5, h6, h7, h8⟩ := hN
    have hlg : ¬ w.heap.size = lp := fun h => h4 (h ▸ hlp)
    have d0 : W2.heap[w.heap.size]? = some (.cells #[v] 34 (0, 0)) := hf2.blk (blk_alloc h1 _) hlg
    have d1 : W2.heap[V.heap.size]? = some (.cells #[iv x.c, iv x.b] 48 (0, 0)) := hf2.blk (blk_new _ _) (fun h => by have := (hY lp hlp).2; omega)
    have d2 : Own DPlace.cs 2 48 W.heap.size W2 v pre := (h2.alloc _).fix hf2 (fun b hb h => h3 b hb (h ▸ hlp))
    have d3 : Below w.heap.size w W2 := bl_fix (bl_alloc h8 _) (Nat.le_refl _) (N := W.heap.size) (by omega) (hf2.mono fun b _ hb => by have := (hY lp hlp).1; omega)
    have hs3 : V.heap.size ≤ W2.heap.size := by simp at hs2; omega
    have hll : pre.length ≤ 1000000 := by have := hx.length_le; simp at this; omega
    have c0 := blk_cell d0 0
    have c1 := blk_cell d1 0
    have c2 := blk_cell d1 1
    simp only [List.getElem?_toArray, List.getElem?_cons_zero, List.getElem?_cons_succ] at c0 c1 c2
    have f0 := blk_frozen d0 0
    have D0 := Lib.hid d0
    have D2 := Lib.hid d2
    have D3 := Lib.hid d3
    have H3 := Lib.hid h3
    have H4 := Lib.hid h4
    have HY := Lib.hid hY
    have hlg' := h6
    have HZ := Lib.hid hsz
    have H7 : Hid (W.heap.size ≤ W2.heap.size) := by unfold Hid; omega
    clear hsz d0 d1 d2 d3 h1 h2 h3 h4 h5 h8 hf2 hs2 hr hr2 hx hfK hY hB b0 hG
    have hb3 : Below W2.heap.size W2 (W2.alloc (.cells #[iv x.c, iv x.b] 48)) := (Below.refl _ _).alloc (Nat.le_refl _) _
    have HB3 := Lib.hid hb3
    have f1 := f0
    apply wpIn_block
    apply region_list
    · simp
    · rintro ⟨_, _, h⟩; exact h
    go_wp2_with (at_builtin; refine wp_push2 (cs := DPlace.cs) (base := W.heap.size) rfl _ _ _ rfl (.agg #[iv 0, iv 0]) 16 Tryz.underlying34 info48 rfl (by decide) v pre x rfl (D2.out.alloc _) W2.heap.size 1 1 rfl rfl (0, 0) 48 (blk_new _ _) rfl (by intro u hu; simp [DPlace.cs] at hu; rcases hu with rfl | rfl <;> rfl) (by omega) (by decide) (by simp; omega) ?_; intro v' W4 hown' hgrow hnew; obtain ⟨A', c', rfl⟩ := hown'.slice; have g4 := blk_grown (blk_below D0.out HB3.out) hgrow (fun h => by have := (D2.out.lt _ h.symm).1; omega); have c4 := blk_cell g4 0; have f4 := blk_frozen g4 0; have HO := Lib.hid hown'; have HG := Lib.hid hgrow; have HN := Lib.hid hnew; clear hown' hgrow hnew g4)
    have hz := HZ.out
    have ho := HO.out
    have hn := HN.out
    rw [show (pre ++ [x]).length = pre.length + 1 by simp] at ho hn
    exact Gath.pushed (by omega) (Nat.le_refl _) D0.out D2.out H3.out H4.out (fun b hb => ⟨(HY.out b hb).1, by have := (HY.out b hb).2; omega⟩) (by omega) H7.out D3.out HB3.out ho HG.out hn (fun b hb => by have := HK.out b hb; omega)
  · rintro V ⟨⟨v, h1, h2, h3⟩, h4, h5, h6, h7, h8⟩ hfK hDf
    have c0 := blk_cell h1 0
    simp only [List.getElem?_toArray, List.getElem?_cons_zero] at c0
    have H2 := Lib.hid h2
    have H8 := Lib.hid h8
    have HDF := Lib.hid hDf
    have HZ := Lib.hid hsz
    clear h1 h2 h3 h4 h5 h7 h8 hDf hG b0 hB hsz hfK
    go_wp2
    have hz := HZ.out
    refine end_mark (D := W.heap.size) v rfl HDF.out ?_ ?_
    · intro U hU
      simp [results, Tryz.results170, go_sem]
    · intro U hU
      refine ⟨v, rfl, (H2.out.fix hU (fun b hb hD => ?_)).mono (by omega), bl_fix (N := W.heap.size) H8.out (Nat.le_refl _) (by omega) (hU.mono fun b _ hb => by omega)⟩
      obtain ⟨cur, hcur⟩ := H2.out.isCells hb
      subst hD
      rw [HDF.out] at hcur
      simp at hcur
  · rintro c' pre V hp h _
    exact h.elim
theorem collect_calls {gf : Nat} {mk : Value → Array Value} {K : Nat → Prop} (xs : List DPlace) (fv : Value) (w0 w : World) (hcall : ∀ (a : Act) (g : Operand) (l : Nat) (W : World), a.eval g = fv → ∃ d, (resolve a.eval (rangeCall g l) 0).run Tryz.prog W = .ok d W ∧ (invoke d.target d.args).run Tryz.prog W = .ok (.enter gf (mk (.func (.yield l) #[] #[]))) W) (hit : Iter Tryz.prog gf mk (fun p => #[placeV p]) xs K w0) (hw : Fix K w0 w) (hK : ∀ b, K b → b < w.heap.size) (hlen : xs.length ≤ 1000000) :
    Calls Tryz.prog 143 #[fv] w fun e w' => ∃ v, e = .returned v ∧ Own DPlace.cs 2 48 w.heap.size w' v xs ∧ Below w.heap.size w w' := by
  go_enter Tryz.func143, Tryz.ntmps143
  go_wp2_with (go_at_call 170; refine (appendSeq_calls xs fv w0 w hcall hit hw hK hlen).mono ?_; rintro e w' ⟨v, rfl, ho, hb⟩; have HO := Lib.hid ho; have HB := Lib.hid hb; clear ho hb)
  go_ret
  exact ⟨_, rfl, HO.out, HB.out⟩
theorem list_calls (m : Nat) (w : World) : Calls Tryz.prog 78 #[setV m] w fun e w' => ∃ v, e = .returned v ∧ Own DPlace.cs 2 48 w.heap.size w' v (placesOf m) ∧ Below w.heap.size w w' := by
  rw [setV_arr, setA]
  go_enter Tryz.func78, Tryz.ntmps78
  have hl : (placesOf m).length ≤ 1000000 := by
    unfold placesOf; rw [List.length_map]; exact Nat.le_trans (List.length_filter_le _ _) (by simp)
  have hb0 := bl_alloc (Below.refl w.heap.size w) (.cells (setA m) 115)
  have HC := Lib.hid (collect_calls (gf := 82) (mk := fun y => #[setV m, y]) (K := fun _ => False) (placesOf m) (.func (.func 82) #[setV m] #[]) w (w.alloc (.cells (setA m) 115)) (callsAs_method (enters_of Tryz.func82 (by kernel_rfl) rfl)) (all_iter m w) (Fix.of_below hb0) (fun _ h => h.elim) hl)
  have HB0 := Lib.hid hb0
  clear hb0
  rw [setV_arr, setA] at HC
  go_wp2_with (go_at_call 143; refine HC.out.mono ?_; rintro e w' ⟨v, rfl, ho, hb⟩; have HO := Lib.hid ho; have HB := Lib.hid hb; clear ho hb)
  go_ret
  exact ⟨_, rfl, HO.out.mono (by simp), bl_step HB0.out HB.out⟩
end Go.Proofs.YtjekioabkmijbaaGreatDoor
