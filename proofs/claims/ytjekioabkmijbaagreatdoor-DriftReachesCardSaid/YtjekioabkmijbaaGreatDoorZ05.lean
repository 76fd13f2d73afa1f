/- The iterator 'all' of a set of places. -/
import Derived.Test.YtjekioabkmijbaaGreatDoorZ03
import Derived.Test.YtjekioabkmijbaaGreatDoorZ04
import Derived.Shelf.Abstract
import Derived.Shelf.RegionOpen
import Derived.OwnWalkIn
import Derived.TacticsInMore
import Derived.LoopNIn
import Derived.LoopIn
import Derived.Sort.LoopGhostIn
set_option linter.unusedVariables false
set_option linter.unusedSimpArgs false
namespace Go.Proofs.YtjekioabkmijbaaGreatDoor
open Go.RowKit Go.Shelf
attribute [local go_sem] Oper.semAt_some
def upTo (m k : Nat) : List DPlace := ((List.range k).filter fun n => m.testBit n).map placed
theorem upTo_yes {m k : Nat} (h : m.testBit k = true) : upTo m (k + 1) = upTo m k ++ [placed k] := by simp [upTo, List.range_succ, h]
theorem upTo_no {m k : Nat} (h : m.testBit k = false) : upTo m (k + 1) = upTo m k := by simp [upTo, List.range_succ, h]
theorem upTo_prefix (m : Nat) {k k' : Nat} (h : k ≤ k') : upTo m k <+: upTo m k' := by
  obtain ⟨d, rfl⟩ := Nat.exists_eq_add_of_le h
  induction d with
  | zero => exact List.prefix_refl _
  | succ d ih =>
    refine (ih (by omega)).trans ?_
    rw [← Nat.add_assoc]
    cases hb : m.testBit (k + d)
    · rw [upTo_no hb]; exact List.prefix_refl _
    · rw [upTo_yes hb]; exact List.prefix_append _ _
set_option maxHeartbeats 1000000 in
set_option maxRecDepth 20000 in
theorem all_iter (m : Nat) (w : World) : Iter Tryz.prog 82 (fun y => #[setV m, y]) (fun p => #[placeV p]) (placesOf m) (fun _ => False) w := by
  intro l J Jx W0 _ hJ hJE hJx hJS hY h0
  have hF : ∀ f, Fence.wide.fn f := fun _ => trivial
  have hD : Fence.wide.depth = none := rfl
  have H1 := Lib.hid hJ
  have H2 := Lib.hid hJS
  have H5 := Lib.hid hJE
  have H3 := Lib.hid hY
  have H4 := Lib.hid (hJE _ (fun b => b = W0.heap.size) _ _ h0 (fun b h => .inr (by omega)))
  clear hJ hJS hY hJE hJx h0
  refine callsIn_of_wp (F := FW none) Tryz.func82 rfl trivial ?_
  rw [setV_arr]
  simp only [Tryz.ntmps82, List.size_toArray, List.length_cons, List.length_nil, Nat.reduceAdd, Nat.reduceSub, Array.replicate_succ, Array.replicate_zero, List.push_toArray, List.append_toArray, List.nil_append, List.cons_append]
  gi_wp2
  gi_loopg [5] 320 (fun n i wr => ∃ k : Nat, k ≤ 320 ∧ n = 320 - k ∧ i = .int .i64 k ∧ wr.heap[W0.heap.size]? = some (.cells (setA m) 115 (0, 0)) ∧ Hid (J (fun b => b = W0.heap.size) (upTo m k) wr))
  case atStart => exact ⟨0, by omega, by omega, rfl, blk_new _ _, H1.out _ _ _ _ H4.out ((Fix.refl _ _).alloc _)⟩
  case round =>
    obtain ⟨k, hk, hn, rfl, hb, HJ⟩ := hrel
    by_cases hlt : k < 320
    · obtain ⟨q, hq⟩ : ∃ q, q = k / 64 := ⟨_, rfl⟩
      obtain ⟨r, hr⟩ : ∃ r, r = k % 64 := ⟨_, rfl⟩
      have q1 : IntKind.i64.wrap ((k : Int).tdiv 64) = (q : Int) := by rw [IntWalk.i64_quo _ _ (by omega)]; omega
      have q2 : (k : Int).tmod 64 = (r : Int) := by rw [IntWalk.rem_in _ _ (by omega)]; omega
      have q3 : (k : Int) / 64 = (q : Int) := by omega
      have q4 : (k : Int) % 64 = (r : Int) := by omega
      have k5 : (q : Int) < 5 := by omega
      have k6 : q < 5 := by omega
      have k7 : r < 64 := by omega
      have HH : Hid ((bits .and .u64 (wd m q / 2 ^ r) 1 == 1) = m.testBit k) := by subst hq hr; exact wd_has m k
      have hc : wr.cell? ⟨W0.heap.size, q, none⟩ = some (.int .u64 (wd m q)) := (blk_cell hb q).trans (setA_get _ _ k6)
      clear hq hr
      by_cases hbit : m.testBit k = true
      · have ht : (bits .and .u64 (wd m q / 2 ^ r) 1 == 1) = true := HH.out.trans hbit
        have ht' : bits .and .u64 (wd m q / 2 ^ r) 1 = 1 := by simpa using ht
        have HB := Lib.hid hbit
        clear hbit
        have HY : ∀ w1, Below wr.heap.size wr w1 → Hid _ := fun w1 hb1 => H3.out (fun b => b = W0.heap.size) (upTo m k) (placed k) w1 (fun b h => ⟨by omega, by subst h; exact Nat.lt_of_lt_of_le (blk_lt hb) hb1.size⟩) (H1.out _ _ _ _ HJ.out (Fix.of_below hb1)) (by rw [← upTo_yes HB.out]; exact upTo_prefix m (by omega))
        gi_wp2_with (gi_at_call 144; refine (callsW.2 (placed_calls k _ (by omega))).mono ?_; rintro e w1 ⟨rfl, hb1⟩; obtain ⟨fn, tmps, assign, body, hy, hR⟩ := (HY w1 hb1).out)
        have hbw1 := blk_below hb hb1
        refine hR.mono ?_
        rintro e W2 (⟨rfl, hJ2, hk2⟩ | ⟨rfl, hJx2⟩)
        · have hb2 := hk2.blk hbw1 (.inl rfl)
          have HJ2 : Hid (J (fun b => b = W0.heap.size) (upTo m (k + 1)) W2) := by rw [upTo_yes HB.out]; exact hJ2
          clear hJ2 hk2 hR hy HY
          gi_wp2
          gi_roundg (320 - (k + 1))
          case measure => omega
          case rel => exact ⟨k + 1, by omega, rfl, by go_num, hb2, HJ2⟩
        · have HX : Hid _ := H2.out (fun _ => False) _ _ _ hJx2 (fun b h => h.elim)
          have HP : Hid (upTo m k ++ [placed k] <+: placesOf m) := by rw [← upTo_yes HB.out]; exact upTo_prefix m (by omega)
          clear hJx2 hR hy HY
          gi_wp2
          refine bodyPost_ret (v := .tuple #[]) (by simp [results, go_sem]) rfl ?_
          exact ⟨⟨_, rfl⟩, .inr ⟨_, HP, HX⟩⟩
      · have hbit' : m.testBit k = false := by simpa using hbit
        have ht : (bits .and .u64 (wd m q / 2 ^ r) 1 == 1) = false := HH.out.trans hbit'
        have ht' : ¬ bits .and .u64 (wd m q / 2 ^ r) 1 = 1 := by simpa using ht
        have HB := Lib.hid hbit'
        clear hbit hbit'
        gi_wp2
        gi_roundg (320 - (k + 1))
        case measure => omega
        case rel => exact ⟨k + 1, by omega, rfl, by go_num, hb, by rw [upTo_no HB.out]; exact HJ.out⟩
    · obtain rfl : k = 320 := by omega
      gi_wp2
      go_end0
      exact ⟨⟨_, rfl⟩, .inl (H5.out _ _ _ _ HJ.out (fun b h => h.elim))⟩
end Go.Proofs.YtjekioabkmijbaaGreatDoor
/- The wind of an hour. -/
set_option linter.unusedVariables false
set_option linter.unusedSimpArgs false
namespace Go.Proofs.YtjekioabkmijbaaGreatDoor
open Go.RowKit Go.Shelf
attribute [local go_sem] Oper.semAt_some
/-- The winds from the last one on. -/
def bwTo (l : List DWind) : Nat → List (Nat × DWind)
  | 0 => []
  | k + 1 => bwTo l k ++ [(l.length - (k + 1), l.getD (l.length - (k + 1)) ⟨0, 0, 0, 0, 0, 0, 0, 0, 0⟩)]
theorem bwTo_prefix (l : List DWind) (k : Nat) : ∀ d, bwTo l k <+: bwTo l (k + d)
  | 0 => List.prefix_refl _
  | d + 1 => (bwTo_prefix l k d).trans (by rw [← Nat.add_assoc]; exact List.prefix_append _ _)
theorem bwTo_snd (l : List DWind) : ∀ k, k ≤ l.length → (bwTo l k).map (·.2) = l.reverse.take k
  | 0, _ => rfl
  | k + 1, h => by
    have h1 : k < l.reverse.length := by rw [List.length_reverse]; omega
    rw [bwTo, List.map_append, bwTo_snd l k (by omega), List.take_add_one, List.getElem?_eq_getElem h1]
    simp only [List.map_cons, List.map_nil, Option.toList_some, List.append_cancel_left_eq, List.cons.injEq, and_true]
    rw [List.getElem_reverse, List.getD_eq_getElem?_getD, List.getElem?_eq_getElem (by omega)]
    simp only [Option.getD_some]
    congr 1
    omega
theorem backward_calls (A : Option Addr) (n c : Nat) (w : World) :
    Calls Tryz.prog 168 #[.slice A n c] w fun e w' => e = .returned (.func (.func 196) #[] #[.pointer (some ⟨w.heap.size, 0, none⟩)]) ∧ w.alloc (.cells #[.slice A n c] 26) = w' := by
  go_enter Tryz.func168, Tryz.ntmps168
  go_wp2
  go_ret
  exact ⟨rfl, rfl⟩
set_option maxHeartbeats 1000000 in
set_option maxRecDepth 20000 in
theorem bw_iter (l : List DWind) (A : Option Addr) (c g : Nat) (K : Nat → Prop) (w : World) (hl : l.length ≤ 1000000)
    (hd : ∀ W, Fix K w W → W.heap[g]? = some (.cells #[.slice A l.length c] 26 (0, 0)) ∧ Sl DWind.cs 9 W (.slice A l.length c) l) :
    Iter Tryz.prog 196 (fun y => #[y] ++ #[.pointer (some ⟨g, 0, none⟩)]) (fun p : Nat × DWind => #[iv p.1, windV p.2]) (bwTo l l.length) K w := by
  intro lp J Jx W0 hw0 hJ hJE hJx hJS hY h0
  have hF : ∀ f, Fence.wide.fn f := fun _ => trivial
  have hD : Fence.wide.depth = none := rfl
  have H1 := Lib.hid hJ
  have H2 := Lib.hid hJS
  have H3 := Lib.hid hY
  have HW := Lib.hid hw0
  have H0 : Hid (J (fun _ => False) [] W0) := h0
  have Hd := Lib.hid hd
  have g0 := blk_cell (hd W0 hw0).1 0
  simp only [List.getElem?_toArray, List.getElem?_cons_zero] at g0
  clear hJ hJS hY hJE hJx h0 hd hw0
  refine callsIn_of_wp (F := FW none) Tryz.func196 rfl trivial ?_
  simp only [Tryz.ntmps196, List.size_toArray, List.length_cons, List.length_nil, Nat.reduceAdd, Nat.reduceSub, Array.replicate_succ, Array.replicate_zero, List.push_toArray, List.append_toArray, List.nil_append, List.cons_append]
  gi_wp2
  gi_loopg [3] l.length (fun n i wr => ∃ k : Nat, k ≤ l.length ∧ n = l.length - k ∧ i = .int .i64 ((l.length : Int) - 1 - k) ∧ Hid (Fix K w wr) ∧ Hid (J (fun _ => False) (bwTo l k) wr))
  case atStart => exact ⟨0, by omega, by omega, by simp, HW, H0⟩
  case round =>
    obtain ⟨k, hk, hn, rfl, HK, HJ⟩ := hrel
    obtain ⟨hg, hs⟩ := Hd.out wr HK.out
    have g0 := blk_cell hg 0
    simp only [List.getElem?_toArray, List.getElem?_cons_zero] at g0
    by_cases hlt : k < l.length
    · obtain ⟨i, hi⟩ : ∃ i, i = l.length - (k + 1) := ⟨_, rfl⟩
      have ei : (l.length : Int) - 1 - k = (i : Int) := by omega
      have il : i < l.length := by omega
      have hx : l[i]? = some l[i] := List.getElem?_eq_getElem il
      have HS : Hid (bwTo l (k + 1) = bwTo l k ++ [(i, l[i])]) := by unfold Hid; rw [bwTo, ← hi, List.getD_eq_getElem?_getD, hx]; rfl
      have HI : Hid (i = l.length - (k + 1)) := hi
      rw [ei]
      clear ei hi
      obtain ⟨b, o, rfl, c0, c1, c2, c3, c4, c5, c6, c7, c8⟩ := hs.wind i _ hx
      obtain ⟨fn, tmps, assign, body, hy, hR⟩ := H3.out (fun _ => False) (bwTo l k) (i, l[i]) wr (fun b h => h.elim) HJ.out (by rw [← HS.out]; have := bwTo_prefix l (k + 1) (l.length - (k + 1)); rwa [show k + 1 + (l.length - (k + 1)) = l.length by omega] at this)
      dsimp only at hy
      gi_wp2
      refine hR.mono ?_
      rintro e W2 (⟨rfl, hJ2, hk2⟩ | ⟨rfl, hJx2⟩)
      · have HJ2 : Hid (J (fun _ => False) (bwTo l (k + 1)) W2) := by rw [HS.out]; exact hJ2
        have HK2 : Hid (Fix K w W2) := HK.out.trans (hk2.mono fun b _ h => .inr h)
        clear hJ2 hk2 hR hy
        gi_wp2
        gi_roundg (l.length - (k + 1))
        case measure => omega
        case rel => exact ⟨k + 1, by omega, rfl, by have := HI.out; have e : (i : Int) - 1 = (l.length : Int) - 1 - ((k + 1 : Nat) : Int) := (by omega); first | rw [e] | (simp only [Value.int.injEq, true_and]; omega), HK2, HJ2⟩
      · have HX : Hid _ := hJx2
        have HP : Hid (bwTo l k ++ [(i, l[i])] <+: bwTo l l.length) := by rw [← HS.out]; have := bwTo_prefix l (k + 1) (l.length - (k + 1)); rwa [show k + 1 + (l.length - (k + 1)) = l.length by omega] at this
        clear hJx2 hR hy
        gi_wp2
        refine bodyPost_ret (v := .tuple #[]) (by simp [results, go_sem]) rfl ?_
        exact ⟨⟨_, rfl⟩, .inr ⟨_, HP, HX⟩⟩
    · obtain rfl : k = l.length := by omega
      gi_wp2
      go_end0
      exact ⟨⟨_, rfl⟩, .inl HJ⟩
abbrev windA (x : DWind) : Array Value := #[iv x.id, iv x.kn, iv x.fr, iv x.un, iv x.al, iv x.ah, iv x.sl, iv x.sh, iv x.vo]
def zeroW : DWind := ⟨0, 0, 0, 0, 0, 0, 0, 0, 0⟩
def atV (o : Option DWind) : Value := match o with
  | some x => .tuple #[windV x, .bool true]
  | none => .tuple #[windV zeroW, .bool false]
theorem find_of_pre {l : List DWind} {h : Int} {pre : List (Nat × DWind)} {p : Nat × DWind} (hp : pre ++ [p] <+: bwTo l l.length) (hn : ∀ q ∈ pre, blows h q.2 = false) (hy : blows h p.2 = true) : windAt l h = some p.2 := by
  obtain ⟨t, ht⟩ := hp
  have e : l.reverse = (pre.map (·.2)) ++ p.2 :: t.map (·.2) := by
    have := bwTo_snd l l.length (Nat.le_refl _)
    rw [List.take_of_length_le (by simp), ← ht] at this
    simpa using this.symm
  unfold windAt
  rw [e, List.find?_append, List.find?_eq_none.2 (by intro x hx; obtain ⟨q, hq, rfl⟩ := List.mem_map.1 hx; simp [hn q hq])]
  simp [hy]
theorem find_none {l : List DWind} {h : Int} (hn : ∀ q ∈ bwTo l l.length, blows h q.2 = false) : windAt l h = none := by
  unfold windAt
  rw [List.find?_eq_none]
  intro x hx
  have := bwTo_snd l l.length (Nat.le_refl _)
  rw [List.take_of_length_le (by simp)] at this
  rw [← this] at hx
  obtain ⟨q, hq, rfl⟩ := List.mem_map.1 hx
  simp [hn q hq]
def NoBlow (h : Int) (pre : List (Nat × DWind)) : Prop := ∀ q ∈ pre, blows h q.2 = false
def AtStop (l : List DWind) (h : Int) (w : World) (cd : Code) (V : World) : Prop :=
  cd = .ret ∧ ∃ x : DWind, windAt l h = some x ∧ V.heap[w.heap.size + 1]? = some (.cells (windA x) 53 (0, 0)) ∧ V.heap[w.heap.size + 1 + 1]? = some (.cells #[.bool true] 4 (0, 0)) ∧ Below w.heap.size w V
theorem bools2 {g : Nat} {b c : Bool} (U : World) (hU : U.heap[g]? = some (.cells #[.bool b] 4 (0, 0))) : (U.setCell ⟨g, 0, none⟩ (.bool c)).heap[g]? = some (.cells #[.bool c] 4 (0, 0)) := by
  have := blk_set hU 0 (.bool c); simpa using this
theorem res_at {U : World} {g g' : Nat} {x : DWind} {b : Bool} {tmps : Array Value} (h1 : U.heap[g]? = some (.cells (windA x) 53 (0, 0))) (h2 : U.heap[g']? = some (.cells #[.bool b] 4 (0, 0)))
    (e1 : tmps.getD 4 undef = .pointer (some ⟨g, 0, none⟩) := by rfl) (e2 : tmps.getD 5 undef = .pointer (some ⟨g', 0, none⟩) := by rfl) :
    (results Tryz.f124 tmps).run Tryz.prog U = .ok (.tuple #[windV x, .bool b]) U := by
  have c0 := blk_cell h1 0
  have c1 := blk_cell h1 1
  have c2 := blk_cell h1 2
  have c3 := blk_cell h1 3
  have c4 := blk_cell h1 4
  have c5 := blk_cell h1 5
  have c6 := blk_cell h1 6
  have c7 := blk_cell h1 7
  have c8 := blk_cell h1 8
  have d0 := blk_cell h2 0
  simp only [List.getElem?_toArray, List.getElem?_cons_zero, List.getElem?_cons_succ] at c0 c1 c2 c3 c4 c5 c6 c7 c8 d0
  have e1' : tmps[4]?.getD undef = .pointer (some ⟨g, 0, none⟩) := by simpa using e1
  have e2' : tmps[5]?.getD undef = .pointer (some ⟨g', 0, none⟩) := by simpa using e2
  simp [results, Tryz.results124, go_sem, e1', e2', c0, c1, c2, c3, c4, c5, c6, c7, c8, d0]
set_option maxHeartbeats 1000000 in
set_option maxRecDepth 20000 in
theorem at_calls (l : List DWind) (v : Value) (h : Int) (w : World) (hl : l.length ≤ 1000000) (hs : Sl DWind.cs 9 w v l) :
    Calls Tryz.prog 124 #[v, iv h] w fun e w' => e = .returned (atV (windAt l h)) ∧ Below w.heap.size w w' := by
  obtain ⟨A, c, rfl, hc, _⟩ := hs.open_
  have hF : ∀ f, Fence.wide.fn f := fun _ => trivial
  have hD : Fence.wide.depth = none := rfl
  have HS := Lib.hid hs
  clear hs
  refine callsW.1 (callsIn_of_wp_marks (F := FW none) (n := 0) Tryz.func124 rfl trivial (wpIn_wide.2 ?_))
  simp only [Tryz.ntmps124, List.size_toArray, List.length_cons, List.length_nil, Nat.reduceAdd, Nat.reduceSub, Array.replicate_succ, Array.replicate_zero, List.push_toArray, List.append_toArray, List.nil_append, List.cons_append]
  go_wp2_with (go_at_call 168; refine (backward_calls _ _ _ _).mono ?_; rintro e w' ⟨rfl, rfl⟩)
  refine wp_abs (fun W hW => ?_)
  have b0 : W.heap[w.heap.size]? = some (.cells #[iv h] 3 (0, 0)) := by rw [hW]; exact blk_alloc (blk_alloc (blk_alloc (blk_new _ _) _) _) _
  have b1 : W.heap[w.heap.size + 1]? = some (.cells #[iv 0, iv 0, iv 0, iv 0, iv 0, iv 0, iv 0, iv 0, iv 0] 53 (0, 0)) := by rw [hW]; exact blk_alloc (blk_alloc (blk_at _ (by simp)) _) _
  have b2 : W.heap[w.heap.size + 1 + 1]? = some (.cells #[.bool false] 4 (0, 0)) := by rw [hW]; exact blk_alloc (blk_at _ (by simp)) _
  have b3 : W.heap[w.heap.size + 1 + 1 + 1]? = some (.cells #[.slice A l.length c] 26 (0, 0)) := by rw [hW]; exact blk_at _ (by simp)
  have hsz : W.heap.size = w.heap.size + 1 + 1 + 1 + 1 := by rw [hW]; simp
  have hB : Below w.heap.size w W := by rw [hW]; exact bl_alloc (bl_alloc (bl_alloc (bl_alloc (Below.refl _ _) _) _) _) _
  clear hW
  have BB0 := Lib.hid b0
  have BB1 := Lib.hid b1
  have BB2 := Lib.hid b2
  have BB3 := Lib.hid b3
  have HB := Lib.hid hB
  have HZ := Lib.hid hsz
  clear b0 b1 b2 b3 hB hsz
  refine wp_iter0s (α := Nat × DWind) (callsAs_closure (enters_of Tryz.func196 (by kernel_rfl) rfl)) (bw_iter l A c (w.heap.size + 1 + 1 + 1) (fun b => b < W.heap.size) W hl (fun V hV => ⟨hV.blk BB3.out (blk_lt BB3.out), (HS.out.below HB.out).below (hV.to_below (Nat.le_refl _))⟩)) (Fix.refl _ _) (fun x => rfl) (fun b h => h)
    (fun pre V => Fix (fun b => b < W.heap.size) W V ∧ NoBlow h pre)
    (fun cd pre V => AtStop l h w cd V)
    (fun pre V V' h1 _ h2 => ⟨h1.1.trans h2, h1.2⟩)
    (fun cd pre V V' h1 _ h2 => ?_) ⟨Fix.refl _ _, fun q hq => by simp at hq⟩ ?_ ?_ ?_
  · obtain ⟨e, p, hp, g1, g2, hb⟩ := h1
    have := HZ.out
    exact ⟨e, p, hp, h2.blk g1 (by omega), h2.blk g2 (by omega), bl_fix hb (Nat.le_refl _) (by omega) h2⟩
  · rintro lp pre x V hlp1 hlp2 hVs ⟨hV, hpre⟩ hx hK
    gi_wp2
    refine ⟨bl_alloc (Below.refl _ _) _, fun W2 hf2 hs2 => ?_⟩
    have hz := HZ.out
    have d0 : W2.heap[w.heap.size]? = some (.cells #[iv h] 3 (0, 0)) := hf2.blk (blk_alloc (hV.blk BB0.out (by omega)) _) (by omega)
    have d1 : W2.heap[w.heap.size + 1]? = some (.cells #[iv 0, iv 0, iv 0, iv 0, iv 0, iv 0, iv 0, iv 0, iv 0] 53 (0, 0)) := hf2.blk (blk_alloc (hV.blk BB1.out (by omega)) _) (by omega)
    have d2 : W2.heap[w.heap.size + 1 + 1]? = some (.cells #[.bool false] 4 (0, 0)) := hf2.blk (blk_alloc (hV.blk BB2.out (by omega)) _) (by omega)
    have d3 : W2.heap[V.heap.size]? = some (.cells (windA x.2) 53 (0, 0)) := hf2.blk (blk_new _ _) (by omega)
    have hf0 : Fix (fun b => b < W.heap.size) W W2 := (hV.alloc _).trans (hf2.mono fun b _ hb => by omega)
    have e0 := blk_cell d0 0
    have x0 := blk_cell d3 0
    have x1 := blk_cell d3 1
    have x2 := blk_cell d3 2
    have x3 := blk_cell d3 3
    have x4 := blk_cell d3 4
    have x5 := blk_cell d3 5
    have x6 := blk_cell d3 6
    have x7 := blk_cell d3 7
    have x8 := blk_cell d3 8
    simp only [List.getElem?_toArray, List.getElem?_cons_zero, List.getElem?_cons_succ] at e0 x0 x1 x2 x3 x4 x5 x6 x7 x8
    have eb : blows h x.2 = inB h x.2.fr x.2.un := rfl
    have HE := Lib.hid eb
    clear eb hK hlp1 hVs hs2 hf2
    by_cases hin : inB h x.2.fr x.2.un = true
    · have f0 := fun i => blk_frozen d1 i
      have f1 := blk_frozen d2 0
      have y0 := blk_cell d1 0
      have y1 := blk_cell d1 1
      have y2 := blk_cell d1 2
      have y3 := blk_cell d1 3
      have y4 := blk_cell d1 4
      have y5 := blk_cell d1 5
      have y6 := blk_cell d1 6
      have y7 := blk_cell d1 7
      have y8 := blk_cell d1 8
      have y9 := blk_cell d2 0
      simp only [List.getElem?_toArray, List.getElem?_cons_zero, List.getElem?_cons_succ] at y0 y1 y2 y3 y4 y5 y6 y7 y8 y9
      have D1 := Lib.hid d1
      have D2 := Lib.hid d2
      have HFX := Lib.hid hf0
      have HP : Hid (windAt l h = some x.2) := find_of_pre hx hpre (HE.out.trans hin)
      clear d0 d1 d2 d3 hpre hV hf0 hz
      gi_wp2_with (gi_at_call 101; refine (callsW.2 (in_calls _ _ _ _)).mono ?_; rintro e w' ⟨rfl, rfl⟩)
      have hz := HZ.out
      refine ⟨⟨rfl, x.2, HP.out, ?_, ?_, ?_⟩, ?_⟩
      · exact blk_far (blk_set9 D1.out _ _ _ _ _ _ _ _ _) (by simp) _
      · have D2' := D2.out
        refine bools2 (b := false) _ ?_
        repeat (first | (with_reducible exact D2') | refine blk_far ?_ (by simp) _)
      · have HBX : Below w.heap.size w W2 := bl_fix HB.out (Nat.le_refl _) (by omega) HFX.out
        repeat (first | (with_reducible exact HBX) | refine Below.setCell ?_ (by first | (simp; done) | (simp; omega)) _)
      · repeat (first | (with_reducible exact Fix.refl _ _) | refine Fix.setCell ?_ (by intro _; first | omega | (simp; omega)) _)
    · have hin' : inB h x.2.fr x.2.un = false := by simpa using hin
      have HP : Hid (NoBlow h (pre ++ [x])) := by
        intro q hq
        rcases List.mem_append.1 hq with hq | hq
        · exact hpre q hq
        · rw [List.mem_singleton] at hq; subst hq; rw [HE.out]; exact hin'
      have HFX := Lib.hid hf0
      clear d0 d1 d2 d3 hpre hV hf0 hz hin
      gi_wp2_with (gi_at_call 101; refine (callsW.2 (in_calls _ _ _ _)).mono ?_; rintro e w' ⟨rfl, rfl⟩)
      exact ⟨⟨HFX.out, HP.out⟩, Fix.refl _ _⟩
  · rintro V ⟨hV, hpre⟩ hVs hDf
    have HN := Lib.hid (find_none hpre)
    have hz := HZ.out
    have d1 := hV.blk BB1.out (by omega)
    have d2 := hV.blk BB2.out (by omega)
    have HBX : Below w.heap.size w V := bl_fix HB.out (Nat.le_refl _) (by omega) hV
    have HDF := Lib.hid hDf
    have D1 := Lib.hid d1
    have D2 := Lib.hid d2
    have f0 := fun i => blk_frozen d1 i
    have f1 := blk_frozen d2 0
    have y0 := blk_cell d1 0
    have y1 := blk_cell d1 1
    have y2 := blk_cell d1 2
    have y3 := blk_cell d1 3
    have y4 := blk_cell d1 4
    have y5 := blk_cell d1 5
    have y6 := blk_cell d1 6
    have y7 := blk_cell d1 7
    have y8 := blk_cell d1 8
    have y9 := blk_cell d2 0
    simp only [List.getElem?_toArray, List.getElem?_cons_zero, List.getElem?_cons_succ] at y0 y1 y2 y3 y4 y5 y6 y7 y8 y9
    have HF1 := Lib.hid hV
    clear hpre hDf hV d1 d2
    go_wp2
    refine end_mark (D := W.heap.size) (atV (windAt l h)) rfl ?_ ?_ ?_
    · repeat (first | (with_reducible exact HDF.out) | refine blk_far ?_ (by simp; omega) _)
    · intro U hU
      have g1 := hU.blk (blk_far (blk_set9 D1.out (iv 0) (iv 0) (iv 0) (iv 0) (iv 0) (iv 0) (iv 0) (iv 0) (iv 0)) (p := ⟨w.heap.size + 1 + 1, 0, none⟩) (by simp) (.bool false)) (by omega)
      have g2 := hU.blk (bools2 (b := false) _ (by repeat (first | (with_reducible exact D2.out) | refine blk_far ?_ (by simp) _))) (by omega)
      rw [HN.out]
      exact res_at g1 g2
    · intro U hU
      refine ⟨rfl, bl_fix (N := W.heap.size) ?_ (Nat.le_refl _) (by omega) (hU.mono fun b _ hb => by omega)⟩
      repeat (first | (with_reducible exact HBX) | refine Below.setCell ?_ (by first | (simp; done) | (simp; omega)) _)
  · rintro c' pre V hp ⟨rfl, x, hx, g1, g2, hb⟩ hVs hDf
    have HG1 := Lib.hid g1
    have HG2 := Lib.hid g2
    have HX := Lib.hid hx
    have HDF := Lib.hid hDf
    have hz := HZ.out
    clear g1 g2 hx hDf
    go_wp2
    refine end_mark (D := W.heap.size) (atV (windAt l h)) rfl HDF.out ?_ ?_
    · intro U hU
      rw [HX.out]
      exact res_at (hU.blk HG1.out (by omega)) (hU.blk HG2.out (by omega))
    · intro U hU
      exact ⟨rfl, bl_fix (N := W.heap.size) hb (Nat.le_refl _) (by omega) (hU.mono fun b _ hb => by omega)⟩
end Go.Proofs.YtjekioabkmijbaaGreatDoor
