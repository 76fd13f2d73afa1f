/- slices.DeleteFunc of winds. -/
import Derived.Test.YtjekioabkmijbaaGreatDoorZ10
import Derived.Test.YtjekioabkmijbaaGreatDoorZ13
import Derived.Test.YtjekioabkmijbaaGreatDoorZ08
import Derived.Test.YtjekioabkmijbaaGreatDoorZ09
set_option linter.unusedVariables false
set_option linter.unusedSimpArgs false
namespace Go.Proofs.YtjekioabkmijbaaGreatDoor
open Go.RowKit
/-- A function value that tells, whatever stands in the blocks from base on. -/
def TellsF (P : Program) (gf : Nat) (lb : Array Value) (p : DWind → Bool) (l : List DWind) (base : Nat) (w : World) : Prop :=
  (∀ args w, (callFunc gf args).run P w = .ok (.enter gf args) w) ∧ ∀ x ∈ l, ∀ w1, Fix (fun b => b < base) w w1 → Calls P gf (#[windV x] ++ lb) w1 fun e w2 => e = .returned (.bool (p x)) ∧ Below w1.heap.size w1 w2
theorem clear_run (w : World) (g o n c : Nat) (cur : Array Value) (hg : w.heap[g]? = some (.cells cur 53 (0, 0))) (hn : 0 < n) (hs : o + n * 9 ≤ cur.size) (ty : TypeId) :
    ∃ news : List Value, news.length = n * 9 ∧ (Builtin.clear_ #[26] ty #[.slice (some ⟨g, o, none⟩) n c]).run Tryz.prog w = .ok (.tuple #[]) (w.setRow g (cur.toList.take o ++ news ++ cur.toList.drop (o + news.length)).toArray) := by
  obtain ⟨m, rfl⟩ : ∃ m, n = m + 1 := ⟨n - 1, by omega⟩
  have hz : ∀ w, (zeroValue 53).run Tryz.prog w = .ok (.agg #[iv 0, iv 0, iv 0, iv 0, iv 0, iv 0, iv 0, iv 0, iv 0]) w := fun w => by simp [go_sem]
  have hl : (Builtin.zeroCells (Value.agg #[iv 0, iv 0, iv 0, iv 0, iv 0, iv 0, iv 0, iv 0, iv 0]).cells (m + 1)).toList.length = (m + 1) * 9 := by simp [Builtin.zeroCells]; rfl
  have h1 : ∀ v ∈ (Builtin.zeroCells (Value.agg #[iv 0, iv 0, iv 0, iv 0, iv 0, iv 0, iv 0, iv 0, iv 0]).cells (m + 1)).toList, v.oneCell' = true := by
    intro v hv
    rw [Array.mem_toList_iff] at hv
    unfold Builtin.zeroCells at hv
    rw [Array.mem_map] at hv
    obtain ⟨i, _, rfl⟩ := hv
    show ((#[iv 0, iv 0, iv 0, iv 0, iv 0, iv 0, iv 0, iv 0, iv 0] : Array Value)[i % 9]!).oneCell' = true
    have hr : i % 9 < 9 := Nat.mod_lt _ (by decide)
    generalize i % 9 = r at hr
    have : r = 0 ∨ r = 1 ∨ r = 2 ∨ r = 3 ∨ r = 4 ∨ r = 5 ∨ r = 6 ∨ r = 7 ∨ r = 8 := by omega
    rcases this with rfl | rfl | rfl | rfl | rfl | rfl | rfl | rfl | rfl <;> rfl
  have hst := run_storeCells_at Tryz.prog g o 53 _ 0 cur w hg (by rw [hl]; simpa using hs) h1
  simp only [Nat.add_zero] at hst
  exact ⟨_, hl, by simp [Builtin.clear_, run_underlying Tryz.underlying26, hz, hst]⟩
theorem blk_set9i {W : World} {g : Nat} {cur : Array Value} {e : TypeId} {f : Nat × Nat} (h : W.heap[g]? = some (.cells cur e f)) (x : DWind) (i : Nat) :
    (((((((((W.setCell ⟨g, i * 9, none⟩ (iv x.id)).setCell ⟨g, i * 9 + 1, none⟩ (iv x.kn)).setCell ⟨g, i * 9 + 2, none⟩ (iv x.fr)).setCell ⟨g, i * 9 + 3, none⟩ (iv x.un)).setCell ⟨g, i * 9 + 4, none⟩ (iv x.al)).setCell ⟨g, i * 9 + 5, none⟩ (iv x.ah)).setCell ⟨g, i * 9 + 6, none⟩ (iv x.sl)).setCell ⟨g, i * 9 + 7, none⟩ (iv x.sh)).setCell ⟨g, i * 9 + 8, none⟩ (iv x.vo)).heap[g]? = some (.cells (set9 cur i x) e f) := by
  unfold set9
  exact blk_set (blk_set (blk_set (blk_set (blk_set (blk_set (blk_set (blk_set (blk_set h _ _) _ _) _ _) _ _) _ _) _ _) _ _) _ _) _ _
theorem fix_nine {base g : Nat} {A B : World} (h : Fix (fun b => b < base) A B) (hg : ¬ g < base) (i : Nat) (a0 a1 a2 a3 a4 a5 a6 a7 a8 : Value) : Fix (fun b => b < base) A (((((((((B.setCell ⟨g, i * 9, none⟩ a0).setCell ⟨g, i * 9 + 1, none⟩ a1).setCell ⟨g, i * 9 + 2, none⟩ a2).setCell ⟨g, i * 9 + 3, none⟩ a3).setCell ⟨g, i * 9 + 4, none⟩ a4).setCell ⟨g, i * 9 + 5, none⟩ a5).setCell ⟨g, i * 9 + 6, none⟩ a6).setCell ⟨g, i * 9 + 7, none⟩ a7).setCell ⟨g, i * 9 + 8, none⟩ a8) := by
  have st : ∀ {C : World} (o : Nat) (v : Value), Fix (fun b => b < base) A C → Fix (fun b => b < base) A (C.setCell ⟨g, o, none⟩ v) := fun o v hC => hC.setCell (p := ⟨g, o, none⟩) (fun _ => hg) v
  exact st _ _ (st _ _ (st _ _ (st _ _ (st _ _ (st _ _ (st _ _ (st _ _ (st _ _ h))))))))
set_option maxHeartbeats 2000000 in
set_option maxRecDepth 20000 in
theorem deleteFunc_calls {gf : Nat} {lb : Array Value} (p : DWind → Bool) (l : List DWind) (v : Value) (base : Nat) (w : World) (ho : Own DWind.cs 9 53 base w v l) (hb : base ≤ w.heap.size) (hlen : l.length ≤ 1000000) (ht : TellsF Tryz.prog gf lb p l base w) :
    Calls Tryz.prog 155 #[v, .func (.func gf) #[] lb] w fun e w' => ∃ v', e = .returned v' ∧ Own DWind.cs 9 53 base w' v' (l.filter fun x => !p x) ∧ Fix (fun b => b < base) w w' := by
  obtain ⟨eg, hT⟩ := ht
  have hs := Own.sl (cs := DWind.cs) (k := 9) (fun _ => rfl) ho (by omega)
  have HI := Lib.hid (index182_calls p l v w hs ⟨eg, fun x hx w1 hw1 => hT x hx w1 (Fix.of_below hw1)⟩)
  have HT := Lib.hid hT
  have HO := Lib.hid ho
  clear hT hs
  rcases hif : l.findIdx? p with _ | k
  · have hall : ∀ x ∈ l, p x = false := List.findIdx?_eq_none_iff.1 hif
    have HF : Hid (l.filter (fun x => !p x) = l) := List.filter_eq_self.2 (fun x hx => by rw [hall x hx]; rfl)
    have hi : idxOf p l = -1 := by unfold idxOf; rw [hif]
    rw [hi] at HI
    clear hall hif hi ho
    go_enter Tryz.func155, Tryz.ntmps155
    go_wp2_with (go_at_call 182; refine HI.out.mono ?_; rintro e w1 ⟨rfl, hb1⟩; have HB1 := Lib.hid hb1; clear hb1)
    refine bodyPost_ret (v := v) (by simp [results, Tryz.results155, go_sem]) rfl ⟨v, rfl, ?_, Fix.of_below HB1.out⟩
    rw [HF.out]
    exact HO.out.below HB1.out
  · rw [List.findIdx?_eq_some_iff_getElem] at hif
    obtain ⟨hkl, hpk, hbef⟩ := hif
    have hx0 : l[k]? = some l[k] := List.getElem?_eq_getElem hkl
    have h00 : ∀ j y, j < k → l[j]? = some y → p y = false := fun j y hj hy => by
      obtain ⟨hjl, e⟩ := List.getElem?_eq_some_iff.1 hy
      have := hbef j hj
      rw [e] at this
      simpa using this
    have hi : idxOf p l = (k : Int) := idxOf_some hx0 h00 hpk
    rw [hi] at HI
    rcases ho.2 with ⟨rfl, h0⟩ | ⟨g, cap, cur, rfl, hbg, hg, hnc, hcm, hcs, htk⟩
    · omega
    have hrows := rows_of htk
    obtain ⟨hst, hkl0⟩ := DelSt.start hx0 hpk h00 hrows
    have HST := Lib.hid hst
    have HG := Lib.hid hg
    have HKL := Lib.hid hkl0
    have HCM := Lib.hid hcm
    have HCS := Lib.hid hcs
    have hlg := blk_lt hg
    clear hi h00 hbef hx0 hpk hrows htk hst hg hkl0 ho hcm hcs
    obtain ⟨n, hn⟩ : ∃ n, n = l.length := ⟨_, rfl⟩
    rw [← hn] at HI hnc hkl hlen ⊢
    have HN := Lib.hid hn
    clear hn
    go_enter Tryz.func155, Tryz.ntmps155
    go_wp2_with (go_at_call 182; refine HI.out.mono ?_; rintro e w1 ⟨rfl, hb1⟩; have HB1 := Lib.hid hb1; clear hb1)
    have G1 := Lib.hid (blk_below HG.out HB1.out)
    go_loopg [6, 5] (n - (k + 1)) (fun m j i wr => ∃ (q : Nat) (c' : Array Value), q ≤ n ∧ m = n - q ∧ j = .int .i64 q ∧ i = .int .i64 ((keep p l q).length : Nat) ∧ Hid (wr.heap[g]? = some (.cells c' 53 (0, 0))) ∧ Hid (DelSt p l q c') ∧ Hid (c'.size = cap * 9) ∧ Hid ((keep p l q).length < q) ∧ Hid (Fix (fun b => b < base) w wr))
    case atStart => exact ⟨k + 1, cur, by omega, rfl, by go_num, by rw [HKL.out], G1.out, HST.out, HCS.out, by unfold Hid; rw [HKL.out]; omega, Fix.of_below HB1.out⟩
    case round =>
      obtain ⟨q, c', hq, hm, rfl, rfl, HG', HS', HZ', HL', HF'⟩ := hrel
      by_cases hlt : q < n
      · have hx : l[q]? = some l[q] := List.getElem?_eq_getElem (by rw [← HN.out]; exact hlt)
        obtain ⟨x, hxe⟩ : ∃ x, x = l[q] := ⟨_, rfl⟩
        have hmem : x ∈ l := by rw [hxe]; exact List.getElem_mem _
        rw [← hxe] at hx
        clear hxe
        obtain ⟨c0, c1, c2, c3, c4, c5, c6, c7, c8⟩ := RowAt.cells HG'.out (HS'.out.2 q x (Nat.le_refl _) hx)
        have lg := blk_lt HG'.out
        obtain ⟨i, hi⟩ : ∃ i, i = (keep p l q).length := ⟨_, rfl⟩
        have HI' := Lib.hid hi
        have hiq : i < q := by rw [hi]; exact HL'.out
        rw [← hi]
        have hfa : Fix (fun b => b < base) w (wr.alloc (.cells (windA x) 53)) := HF'.out.alloc _
        have HC := Lib.hid (HT.out x hmem _ hfa)
        have HX := Lib.hid hx
        clear hi hx hmem hfa
        by_cases hp : p x = true
        · have HP := Lib.hid hp
          clear hp
          go_wp2_with fail
          refine HC.out.mono ?_
          rintro e w2 ⟨rfl, hb2⟩
          rw [HP.out]
          have HB2 := Lib.hid (bl_step (bl_alloc (Below.refl wr.heap.size wr) (.cells (windA x) 53)) hb2)
          clear hb2 c0 c1 c2 c3 c4 c5 c6 c7 c8
          go_wp2_with fail
          go_roundg (n - (q + 1))
          case measure => omega
          case rel => exact ⟨q + 1, c', by omega, rfl, by go_num, by rw [keep_succ HX.out, if_pos HP.out, ← HI'.out], blk_below HG'.out HB2.out, HS'.out.gone HX.out HP.out, HZ'.out, by unfold Hid; rw [keep_succ HX.out, if_pos HP.out, ← HI'.out]; omega, HF'.out.below HB2.out⟩
        · have HP := Lib.hid (show p x = false by simpa using hp)
          clear hp
          go_wp2_with fail
          refine HC.out.mono ?_
          rintro e w2 ⟨rfl, hb2⟩
          rw [HP.out]
          have hb3 := bl_step (bl_alloc (Below.refl wr.heap.size wr) (.cells (windA x) 53)) hb2
          have HB2 := Lib.hid hb3
          have hg2 := blk_below HG'.out hb3
          have hx2 := blk_below (blk_new wr (.cells (windA x) 53)) hb2
          obtain ⟨d0, d1, d2, d3, d4, d5, d6, d7, d8⟩ := wind_cells hx2
          have f0 := blk_frozen hg2 (i * 9)
          have f1 := blk_frozen hg2 (i * 9 + 1)
          have f2 := blk_frozen hg2 (i * 9 + 2)
          have f3 := blk_frozen hg2 (i * 9 + 3)
          have f4 := blk_frozen hg2 (i * 9 + 4)
          have f5 := blk_frozen hg2 (i * 9 + 5)
          have f6 := blk_frozen hg2 (i * 9 + 6)
          have f7 := blk_frozen hg2 (i * 9 + 7)
          have f8 := blk_frozen hg2 (i * 9 + 8)
          have hin : i < n := by omega
          have hall : ∀ t, t < 9 → ∃ u, w2.cell? ⟨g, i * 9 + t, none⟩ = some u := fun t ht => ⟨_, (blk_cell hg2 _).trans (Array.getElem?_eq_getElem (by rw [HZ'.out]; omega))⟩
          obtain ⟨u0, e0⟩ := hall 0 (by omega)
          obtain ⟨u1, e1⟩ := hall 1 (by omega)
          obtain ⟨u2, e2⟩ := hall 2 (by omega)
          obtain ⟨u3, e3⟩ := hall 3 (by omega)
          obtain ⟨u4, e4⟩ := hall 4 (by omega)
          obtain ⟨u5, e5⟩ := hall 5 (by omega)
          obtain ⟨u6, e6⟩ := hall 6 (by omega)
          obtain ⟨u7, e7⟩ := hall 7 (by omega)
          obtain ⟨u8, e8⟩ := hall 8 (by omega)
          rw [Nat.add_zero] at e0
          clear hall
          have HG2 := Lib.hid hg2
          clear hb2 hb3 hg2 hx2 c0 c1 c2 c3 c4 c5 c6 c7 c8
          go_wp2_with fail
          go_roundg (n - (q + 1))
          case measure => omega
          case rel =>
            have hfx : Fix (fun b => b < base) w w2 := HF'.out.below HB2.out
            exact ⟨q + 1, set9 c' i x, by omega, rfl, by go_num, by rw [keep_succ HX.out, if_neg (by rw [HP.out]; simp), List.length_append, ← HI'.out]; go_num, blk_set9i HG2.out x i, by rw [HI'.out]; exact HS'.out.kept HX.out HP.out (by rw [← HI'.out, HZ'.out]; omega), by unfold Hid; rw [set9_size]; exact HZ'.out, by unfold Hid; rw [keep_succ HX.out, if_neg (by rw [HP.out]; simp), List.length_append, ← HI'.out]; simp; omega, fix_nine hfx (by omega) _ _ _ _ _ _ _ _ _ _⟩
      · obtain rfl : q = n := by omega
        obtain ⟨i, hi⟩ : ∃ i, i = (keep p l q).length := ⟨_, rfl⟩
        have HI' := Lib.hid hi
        have hiq : i < q := by rw [hi]; exact HL'.out
        rw [← hi]
        clear hi
        obtain ⟨news, hnl, hrun⟩ := clear_run wr g (i * 9) (q - i) (cap - i) c' HG'.out (by omega) (by rw [HZ'.out]; omega) 0
        have HNL := Lib.hid hnl
        clear hnl
        go_wp2_with fail
        have hsz := HZ'.out
        have hg6 := setRow_heap wr g c' (c'.toList.take (i * 9) ++ (news ++ c'.toList.drop (i * 9 + news.length))).toArray 53 (0, 0) HG'.out
        refine bodyPost_ret (v := .slice (some ⟨g, 0, none⟩) i cap) (by simp [results, Tryz.results155, go_sem]) rfl ⟨_, rfl, ?_, ?_⟩
        · have hkeep : keep p l q = l.filter fun x => !p x := by rw [HN.out]; exact keep_all p l
          have hrw := rows_take (cur := c') HS'.out.1 (by rw [← HI'.out, hsz]; omega)
          rw [← HI'.out, hkeep] at hrw
          have hlen2 : (l.filter fun x => !p x).length = i := by rw [← hkeep, ← HI'.out]
          unfold Own
          rw [hlen2]
          refine ⟨by rw [flatMap_len (cs := DWind.cs) (k := 9) (fun _ => rfl), hlen2], .inr ⟨g, cap, _, rfl, hbg, hg6, by omega, HCM.out, ?_, ?_⟩⟩
          · simp only [List.size_toArray, List.length_append, List.length_take, List.length_drop, Array.length_toList, HNL.out, hsz]
            omega
          · rw [List.take_append_of_le_length (by simp [hsz]; omega), List.take_take, Nat.min_self]
            exact hrw
        · have hf := HF'.out
          exact ⟨hf.os, hf.tape, hf.output, by have := hf.size; simpa [World.setRow] using this, fun b hb' hb2 => (setRow_other wr g b _ (by omega)).trans (hf.block b hb' hb2)⟩
end Go.Proofs.YtjekioabkmijbaaGreatDoor
/- counting. -/
set_option linter.unusedVariables false
set_option linter.unusedSimpArgs false
namespace Go.Proofs.YtjekioabkmijbaaGreatDoor
open Go.RowKit Go.Maps
theorem any_take (l : List DWind) (x : DWind) (k : Nat) (h : l[k]? = some x) : l.take (k + 1) = l.take k ++ [x] := by rw [List.take_add_one, h]; rfl
def winds (l : List DWind) : Prop := ∀ x ∈ l, windOk x = true
set_option maxHeartbeats 2000000 in
set_option maxRecDepth 20000 in
theorem counting_calls (l : List DWind) (v : Value) (known : Int) (w : World) (hl : l.length ≤ 1000000) (hs : Sl DWind.cs 9 w v l) (hw : winds l) :
    Calls Tryz.prog 94 #[v, iv known] w fun e w' => ∃ v', e = .returned v' ∧ Own DWind.cs 9 53 w.heap.size w' v' (counting l known) ∧ Below w.heap.size w w' := by
  obtain ⟨A, c, rfl, hc, _⟩ := hs.open_
  have HS := Lib.hid hs
  have HW := Lib.hid hw
  clear hs hw
  have hmk : ∀ w, (Instr.makeMap 173 none).run Tryz.prog w = .ok (.map (some w.heap.size)) (w.alloc (.map #[] 0)) := fun w => run_makeMap _ _
  go_enter Tryz.func94, Tryz.ntmps94
  go_wp2_with fail
  refine wp_abs (fun W hW => ?_)
  have g0 : W.heap[w.heap.size]? = some (.cells #[iv known] 3 (0, 0)) := by rw [hW]; exact blk_alloc (blk_alloc (blk_new _ _) _) _
  have g2 : W.heap[w.heap.size + 1 + 1]? = some (.cells #[.map (some (w.heap.size + 1))] 173 (0, 0)) := by rw [hW]; exact blk_at _ (by simp)
  have gm : W.ownsMap Tryz.prog 3 (plainElem (H := Unit) Tryz.prog 4) (w.heap.size + 1) 0 (voidD known []) := by
    rw [hW]
    have := World.ownsMap_made (H := Unit) (w.alloc (.cells #[iv known] 3)) Tryz.prog 3 (plainElem (H := Unit) Tryz.prog 4)
    rw [show (w.alloc (.cells #[iv known] 3)).heap.size = w.heap.size + 1 by simp] at this
    exact this.alloc _
  have hB : Below w.heap.size w W := by rw [hW]; exact bl_alloc (bl_alloc (bl_alloc (Below.refl _ _) _) _) _
  clear hW
  have HSW := Lib.hid (HS.out.below hB)
  have G0 := Lib.hid g0
  have G2 := Lib.hid g2
  have GM := Lib.hid gm
  have HB := Lib.hid hB
  clear g0 g2 gm hB
  go_loopg [11] l.length (fun n i wr => ∃ k : Nat, k ≤ l.length ∧ n = l.length - k ∧ i = .int .i64 k ∧ wr.heap[w.heap.size]? = some (.cells #[iv known] 3 (0, 0)) ∧ wr.heap[w.heap.size + 1 + 1]? = some (.cells #[.map (some (w.heap.size + 1))] 173 (0, 0)) ∧ Hid (wr.ownsMap Tryz.prog 3 (plainElem (H := Unit) Tryz.prog 4) (w.heap.size + 1) k (voidD known (l.take k))) ∧ Hid (Below w.heap.size w wr))
  case atStart => exact ⟨0, by omega, by omega, rfl, G0.out, G2.out, GM.out, HB.out⟩
  case round =>
    clear HB G0 G2 GM HSW
    obtain ⟨k, hk, hn, rfl, g0, g2, GM, HB⟩ := hrel
    have c0 := blk_cell g0 0
    have c1 := blk_cell g2 0
    simp only [List.getElem?_toArray, List.getElem?_cons_zero] at c0 c1
    have l0 := blk_lt g0
    have l2 := blk_lt g2
    have G0 := Lib.hid g0
    have G2 := Lib.hid g2
    clear g0 g2
    by_cases hlt : k < l.length
    · have hx : l[k]? = some l[k] := List.getElem?_eq_getElem hlt
      obtain ⟨x, hxe⟩ : ∃ x, x = l[k] := ⟨_, rfl⟩
      rw [← hxe] at hx
      have hxw := windOk_bounds (HW.out x (by rw [hxe]; exact List.getElem_mem _))
      clear hxe
      obtain ⟨b, o, rfl, d0, d1, d2, d3, d4, d5, d6, d7, d8⟩ := (HS.out.below HB.out).wind k _ hx
      have HT := Lib.hid (any_take l x k hx)
      have HXW := Lib.hid hxw
      clear hx hxw
      cases hv : x.vo != 0 with
      | false =>
        have HV : Hid (voids known x = false) := by unfold Hid voids; rw [hv]; rfl
        go_wp2
        go_roundg (l.length - (k + 1))
        case measure => omega
        case rel => exact ⟨k + 1, by omega, rfl, by go_num, blk_alloc G0.out _, blk_alloc G2.out _, by unfold Hid; rw [HT.out, voidD_snoc, if_neg (by rw [HV.out]; simp)]; exact (GM.out.alloc _).mono (by omega), bl_alloc HB.out _⟩
      | true =>
        by_cases hkn : x.kn ≤ known
        · have HV : Hid (voids known x = true) := by unfold Hid voids; rw [hv]; simpa using hkn
          go_wp2_with (first | (at_mapUpdate; refine wpList_mapUpdate_own _ rfl _ _ _ 173 rfl 3 4 (int_keyed Tryz.underlying3) Tryz.underlying173 _ (w.heap.size + 1) k (voidD known (l.take k)) rfl (GM.out.alloc _) (by unfold maxLen; omega) _ _ (.int .i64 x.vo) rfl rfl (keyOf_int_mk Tryz.underlying3 (wf64 (by have := HXW.out; omega) (by have := HXW.out; omega))) (.lit (.bool true)) [] (plainElem_bool Tryz.underlying4 true) ?_; intro w1 hown1 hgrow1; have HO1 := Lib.hid hown1; have HG1 := Lib.hid hgrow1; clear hown1 hgrow1))
          go_roundg (l.length - (k + 1))
          case measure => omega
          case rel => exact ⟨k + 1, by omega, rfl, by go_num, blk_grown (blk_alloc G0.out _) HG1.out (by simp), blk_grown (blk_alloc G2.out _) HG1.out (by simp), by unfold Hid; rw [HT.out, voidD_snoc, if_pos HV.out]; exact HO1.out, (bl_alloc HB.out _).grown HG1.out (by have := HB.out.size; simp; omega) (fun b hb => by cases hb; omega)⟩
        · have HV : Hid (voids known x = false) := by unfold Hid voids; rw [hv]; simpa using hkn
          go_wp2
          go_roundg (l.length - (k + 1))
          case measure => omega
          case rel => exact ⟨k + 1, by omega, rfl, by go_num, blk_alloc G0.out _, blk_alloc G2.out _, by unfold Hid; rw [HT.out, voidD_snoc, if_neg (by rw [HV.out]; simp)]; exact (GM.out.alloc _).mono (by omega), bl_alloc HB.out _⟩
    · obtain rfl : k = l.length := by omega
      have HVM : Hid (VoidMap known l (w.heap.size + 1) wr) := ⟨_, by have := GM.out; rwa [List.take_length] at this⟩
      have HCL := Lib.hid (clone_calls l _ wr hl (HS.out.below HB.out))
      go_wp2_with fail
      refine HCL.out.mono ?_
      rintro e w2 ⟨v', rfl, ho, hb2⟩
      have HO2 := Lib.hid ho
      have HB2 := Lib.hid hb2
      have HD := Lib.hid (deleteFunc_calls (gf := 156) (lb := #[.pointer (some ⟨w.heap.size, 0, none⟩), .pointer (some ⟨w.heap.size + 1 + 1, 0, none⟩)]) (fun x => !counts l known x) l v' wr.heap.size w2 ho hb2.size hl ⟨enters_of Tryz.func156 (by kernel_rfl) rfl, fun x hx w3 hf => by
        have hb3 : Below wr.heap.size wr w3 := hb2.trans (hf.to_below hb2.size)
        exact c156_calls _ _ (w.heap.size + 1) known l x w3 (HW.out x hx) (blk_below G0.out hb3) (blk_below G2.out hb3) (HVM.out.below hb3)⟩)
      clear ho hb2 c0 c1
      go_wp2_with fail
      refine HD.out.mono ?_
      rintro e w4 ⟨v2, rfl, ho4, hf4⟩
      have HO4 := Lib.hid ho4
      have HF4 := Lib.hid hf4
      clear ho4 hf4
      go_wp2_with fail
      refine bodyPost_ret (v := v2) (by simp [results, Tryz.results94, go_sem]) rfl ⟨v2, rfl, ?_, ?_⟩
      · have := HO4.out.mono (base' := w.heap.size) HB.out.size
        simp only [Bool.not_not] at this
        exact this
      · exact bl_step HB.out (HB2.out.trans (HF4.out.to_below HB2.out.size))
end Go.Proofs.YtjekioabkmijbaaGreatDoor
