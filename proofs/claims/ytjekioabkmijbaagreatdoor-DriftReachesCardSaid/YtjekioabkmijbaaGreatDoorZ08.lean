/- A record behind others; the log. -/
import Derived.Test.YtjekioabkmijbaaGreatDoorZ07
import Derived.Deep.RegionHeld3
import Derived.Test.YtjekioabkmijbaaGreatDoorZ05
import Derived.OrdersIn
set_option linter.unusedVariables false
set_option linter.unusedSimpArgs false
namespace Go.Proofs.YtjekioabkmijbaaGreatDoor
open Go.RowKit
theorem wind_cells {W : World} {g : Nat} {x : DWind} {t : TypeId} {f : Nat × Nat} (h : W.heap[g]? = some (.cells (windA x) t f)) :
    W.cell? ⟨g, 0, none⟩ = some (iv x.id) ∧ W.cell? ⟨g, 1, none⟩ = some (iv x.kn) ∧ W.cell? ⟨g, 2, none⟩ = some (iv x.fr) ∧ W.cell? ⟨g, 3, none⟩ = some (iv x.un) ∧ W.cell? ⟨g, 4, none⟩ = some (iv x.al) ∧ W.cell? ⟨g, 5, none⟩ = some (iv x.ah) ∧ W.cell? ⟨g, 6, none⟩ = some (iv x.sl) ∧ W.cell? ⟨g, 7, none⟩ = some (iv x.sh) ∧ W.cell? ⟨g, 8, none⟩ = some (iv x.vo) :=
  ⟨blk_cell h 0, blk_cell h 1, blk_cell h 2, blk_cell h 3, blk_cell h 4, blk_cell h 5, blk_cell h 6, blk_cell h 7, blk_cell h 8⟩
theorem c152_calls (g : Nat) (x y : DWind) (w : World) (h : w.heap[g]? = some (.cells (windA x) 53 (0, 0))) : Calls Tryz.prog 152 #[windV y, .pointer (some ⟨g, 0, none⟩)] w fun e w' => e = .returned (.bool (y.id == x.id)) ∧ Below w.heap.size w w' := by
  obtain ⟨c0, c1, c2, c3, c4, c5, c6, c7, c8⟩ := wind_cells h
  have l := blk_lt h
  clear h
  go_enter Tryz.func152, Tryz.ntmps152
  go_wp2
  refine bodyPost_ret (v := .bool (y.id == x.id)) (by simp [results, Tryz.results152, go_sem]) rfl ⟨rfl, bl_alloc (Below.refl _ _) _⟩
theorem c154_calls (g : Nat) (x y : DWind) (w : World) (h : w.heap[g]? = some (.cells (windA x) 53 (0, 0))) : Calls Tryz.prog 154 #[windV y, .pointer (some ⟨g, 0, none⟩)] w fun e w' => e = .returned (.bool (y.vo == x.vo)) ∧ Below w.heap.size w w' := by
  obtain ⟨c0, c1, c2, c3, c4, c5, c6, c7, c8⟩ := wind_cells h
  have l := blk_lt h
  clear h
  go_enter Tryz.func154, Tryz.ntmps154
  go_wp2
  refine bodyPost_ret (v := .bool (y.vo == x.vo)) (by simp [results, Tryz.results154, go_sem]) rfl ⟨rfl, bl_alloc (Below.refl _ _) _⟩
theorem c153_calls (g : Nat) (x y : DWind) (w : World) (h : w.heap[g]? = some (.cells (windA x) 53 (0, 0))) : Calls Tryz.prog 153 #[windV y, .pointer (some ⟨g, 0, none⟩)] w fun e w' => e = .returned (.bool (y.vo == 0 && y.id == x.vo)) ∧ Below w.heap.size w w' := by
  obtain ⟨c0, c1, c2, c3, c4, c5, c6, c7, c8⟩ := wind_cells h
  have l := blk_lt h
  clear h
  cases hv : y.vo == 0 with
  | false =>
    go_enter Tryz.func153, Tryz.ntmps153
    go_wp2
    refine bodyPost_ret (v := .bool (false && y.id == x.vo)) (by simp [results, Tryz.results153, go_sem]) rfl ⟨rfl, bl_alloc (Below.refl _ _) _⟩
  | true =>
    go_enter Tryz.func153, Tryz.ntmps153
    go_wp2
    refine bodyPost_ret (v := .bool (true && y.id == x.vo)) (by simp [results, Tryz.results153, go_sem]) rfl ⟨rfl, bl_alloc (Below.refl _ _) _⟩
theorem c150_calls {gf : Nat} {lb : Array Value} (p : DWind → Bool) (g : Nat) (l : List DWind) (A : Option Addr) (c : Nat) (w : World) (h : w.heap[g]? = some (.cells #[.slice A l.length c] 26 (0, 0))) (hs : Sl DWind.cs 9 w (.slice A l.length c) l) (ht : Tells Tryz.prog gf lb (fun x => windV x) p l w) :
    Calls Tryz.prog 150 #[.func (.func gf) #[] lb, .pointer (some ⟨g, 0, none⟩)] w fun e w' => e = .returned (.bool (l.any p)) ∧ Below w.heap.size w w' := by
  have HC := Lib.hid (contains151_calls p l _ w hs ht)
  have c0 := blk_cell h 0
  simp only [List.getElem?_toArray, List.getElem?_cons_zero] at c0
  clear h hs ht
  go_enter Tryz.func150, Tryz.ntmps150
  go_wp2_with (go_at_call 151; refine HC.out.mono ?_; rintro e w' ⟨rfl, hb1⟩; have HB := Lib.hid hb1; clear hb1)
  refine bodyPost_ret (v := .bool (l.any p)) (by simp [results, Tryz.results150, go_sem]) rfl ⟨rfl, HB.out⟩
theorem errNext_eq (l : List DWind) (x : DWind) : errNext l x = if 200 ≤ l.length then 2 else if windOk x = false then 1 else if l.any (fun y => y.id == x.id) then 6 else if (l.getLast?.any fun y => decide (x.kn < y.kn)) then 7 else if x.vo = 0 then 0 else if l.any (fun y => y.vo == 0 && y.id == x.vo) = false then 5 else if l.any (fun y => y.vo == x.vo) then 6 else 0 := rfl
set_option maxHeartbeats 2000000 in
set_option maxRecDepth 20000 in
theorem follows_calls (l : List DWind) (x : DWind) (v : Value) (w : World) (hs : Sl DWind.cs 9 w v l) :
    Calls Tryz.prog 93 #[v, windV x] w fun e w' => e = .returned (iv (errNext l x)) ∧ Below w.heap.size w w' := by
  obtain ⟨A, c, rfl, hc, hl⟩ := hs.open_
  have HS := Lib.hid hs
  clear hs
  have HE0 : Hid _ := errNext_eq l x
  by_cases hlen : 200 ≤ l.length
  · have HE : Hid (errNext l x = 2) := by rw [HE0.out, if_pos hlen]; rfl
    go_enter Tryz.func93, Tryz.ntmps93
    go_wp2_with fail
    exact bodyPost_ret (v := iv (errNext l x)) (by rw [HE.out]; simp [results, Tryz.results93, go_sem]) rfl ⟨rfl, bl_alloc (bl_alloc (Below.refl _ _) _) _⟩
  rw [if_neg hlen] at HE0
  go_enter Tryz.func93, Tryz.ntmps93
  go_wp2_with fail
  refine calls_abs (fun W hW => ?_)
  have g0 : W.heap[w.heap.size]? = some (.cells #[.slice A l.length c] 26 (0, 0)) := by rw [hW]; exact blk_alloc (blk_new _ _) _
  have g1 : W.heap[w.heap.size + 1]? = some (.cells (windA x) 53 (0, 0)) := by rw [hW]; exact blk_at _ (by simp)
  have hB : Below w.heap.size w W := by rw [hW]; exact bl_alloc (bl_alloc (Below.refl _ _) _) _
  clear hW
  refine (ckWind_calls x W).mono ?_
  rintro e w1 ⟨rfl, hb1⟩
  have hB1 := bl_step hB hb1
  replace g0 := blk_below g0 hb1
  replace g1 := blk_below g1 hb1
  have HB1 := Lib.hid hB1
  have G0 := Lib.hid g0
  have G1 := Lib.hid g1
  clear g0 g1 hB1 hB hb1
  by_cases hw : windOk x = false
  · have e1 : errWind x = 1 := by unfold errWind; rw [hw]; rfl
    have HE : Hid (errNext l x = 1) := by rw [HE0.out, if_pos hw]; rfl
    rw [e1]
    go_wp2_with fail
    exact bodyPost_ret (v := iv (errNext l x)) (by rw [HE.out]; simp [results, Tryz.results93, go_sem]) rfl ⟨rfl, HB1.out⟩
  rw [if_neg hw] at HE0
  have e1 : errWind x = 0 := by unfold errWind; rw [show windOk x = true by simpa using hw]; rfl
  rw [e1]
  clear e1 hw
  have ha : ∀ V, Below w1.heap.size w1 V → ∀ {gf : Nat} (p : DWind → Bool), Tells Tryz.prog gf #[.pointer (some ⟨w.heap.size + 1, 0, none⟩)] (fun y => windV y) p l V → Calls Tryz.prog 150 #[.func (.func gf) #[] #[.pointer (some ⟨w.heap.size + 1, 0, none⟩)], .pointer (some ⟨w.heap.size, 0, none⟩)] V fun e w' => e = .returned (.bool (l.any p)) ∧ Below V.heap.size V w' := fun V hV gf p ht =>
    c150_calls p _ l A c V (blk_below G0.out hV) ((HS.out.below HB1.out).below hV) ht
  have HA := Lib.hid ha
  clear ha
  go_wp2_with fail
  refine (HA.out w1 (Below.refl _ _) (gf := 152) (fun y => y.id == x.id) ⟨enters_of Tryz.func152 (by kernel_rfl) rfl, fun y _ V hV => c152_calls _ x y V (blk_below G1.out hV)⟩).mono ?_
  rintro e w2 ⟨rfl, hb2⟩
  have HB2 := Lib.hid hb2
  generalize (l.any fun y => y.id == x.id) = a1 at HE0 ⊢
  cases a1 with
  | true =>
    have HE : Hid (errNext l x = 6) := by rw [HE0.out]; rfl
    clear hb2
    go_wp2_with fail
    exact bodyPost_ret (v := iv (errNext l x)) (by rw [HE.out]; simp [results, Tryz.results93, go_sem]) rfl ⟨rfl, bl_step HB1.out HB2.out⟩
  | false =>
  obtain ⟨d0, d1, d2, d3, d4, d5, d6, d7, d8⟩ := wind_cells (blk_below G1.out hb2)
  have c0 := blk_cell (blk_below G0.out hb2) 0
  simp only [List.getElem?_toArray, List.getElem?_cons_zero] at c0
  have l0 := blk_lt (blk_below G0.out hb2)
  have l1 := blk_lt (blk_below G1.out hb2)
  have HS2 := Lib.hid ((HS.out.below HB1.out).below hb2)
  clear hb2
  go_upto_region 9 with fail
  go_cut [20] (fun s20 wx => s20 = .bool (l.getLast?.any fun y => decide (x.kn < y.kn)) ∧ Below w2.heap.size w2 wx)
  case first =>
    rcases Nat.eq_zero_or_pos l.length with hz | hz
    · have hl0 : l = [] := List.length_eq_zero_iff.1 hz
      have el : (l.getLast?.any fun y => decide (x.kn < y.kn)) = false := by rw [hl0]; rfl
      have EL := Lib.hid el
      clear el hl0
      go_wp2_with fail
      go_quiet (fail)
      go_wp2_with fail
      go_meet
      exact ⟨by rw [EL.out], bl_drewN (Below.refl _ _) _⟩
    · obtain ⟨q, hq⟩ : ∃ q, l.length = q + 1 := ⟨l.length - 1, by omega⟩
      have hy : l[q]? = some l[q] := List.getElem?_eq_getElem (by omega)
      obtain ⟨y, hye⟩ : ∃ y, y = l[q] := ⟨_, rfl⟩
      rw [← hye] at hy
      obtain ⟨b, o, rfl, r0, r1, r2, r3, r4, r5, r6, r7, r8⟩ := HS2.out.wind q _ hy
      have el : (l.getLast?.any fun y => decide (x.kn < y.kn)) = decide (x.kn < y.kn) := by
        rw [List.getLast?_eq_getElem?, hq, Nat.add_sub_cancel, hy]; rfl
      have EL := Lib.hid el
      have ew : IntKind.i64.wrap ((l.length : Int) - 1) = (q : Int) := by rw [IntWalk.i64_in _ ⟨by omega, by omega⟩]; omega
      have l2 := World.block_lt_of_cell? w2 _ r0
      clear el hye hy HE0
      have hql : q < l.length := by omega
      have hqi : (q : Int) < (l.length : Int) := by omega
      have hq0 : (0 : Int) ≤ (q : Int) := by omega
      have hli : (0 : Int) < (l.length : Int) := by omega
      have hne : ¬ l = [] := fun h => by rw [h] at hql; simp at hql
      have hne2 : (decide (0 < l.length)) = true := by simp; omega
      clear hq hz
      by_cases hkn : x.kn < y.kn
      · go_wp2_with fail
        go_quiet (fail)
        go_wp2_with fail
        go_meet
        exact ⟨by rw [EL.out]; simp [hkn], bl_drewN (Below.refl _ _) _⟩
      · go_wp2_with fail
        go_quiet (fail)
        go_wp2_with fail
        go_meet
        exact ⟨by first | (rw [EL.out]; done) | (rw [EL.out]; simp [hkn]), bl_drewN (Below.refl _ _) _⟩
  case rest =>
    obtain ⟨rfl, hb3⟩ := hcut
    have hB3 := bl_step (bl_step HB1.out HB2.out) hb3
    have G0' := Lib.hid (blk_below (blk_below G0.out HB2.out) hb3)
    have G1' := Lib.hid (blk_below (blk_below G1.out HB2.out) hb3)
    have HS3 := Lib.hid (HS2.out.below hb3)
    have HB3 := Lib.hid hB3
    have H13 := Lib.hid (HB2.out.trans (hb3.mono HB2.out.size))
    clear c0 d0 d1 d2 d3 d4 d5 d6 d7 d8 hB3 hb3 l0 l1
    generalize (l.getLast?.any fun y => decide (x.kn < y.kn)) = a2 at HE0 ⊢
    cases a2 with
    | true =>
      have HE : Hid (errNext l x = 7) := by rw [HE0.out]; rfl
      go_wp2_with fail
      exact bodyPost_ret (v := iv (errNext l x)) (by rw [HE.out]; simp [results, Tryz.results93, go_sem]) rfl ⟨rfl, HB3.out⟩
    | false =>
    obtain ⟨d0, d1, d2, d3, d4, d5, d6, d7, d8⟩ := wind_cells G1'.out
    by_cases hv : x.vo = 0
    · have HE : Hid (errNext l x = 0) := by rw [HE0.out]; simp [hv, Hid]
      have ev : (x.vo == 0) = true := by simp [hv]
      clear HE0
      go_wp2_with fail
      exact bodyPost_ret (v := iv (errNext l x)) (by rw [HE.out]; simp [results, Tryz.results93, go_sem]) rfl ⟨rfl, HB3.out⟩
    have ev : (x.vo == 0) = false := by simp [hv]
    have HE1 : Hid (errNext l x = if (l.any fun y => y.vo == 0 && y.id == x.vo) = false then 5 else if (l.any fun y => y.vo == x.vo) = true then 6 else 0) := by rw [HE0.out]; simp only [Bool.false_eq_true, if_false]; rw [if_neg hv]; rfl
    clear HE0 hv
    go_wp2_with fail
    refine (HA.out _ H13.out (gf := 153) (fun y => y.vo == 0 && y.id == x.vo) ⟨enters_of Tryz.func153 (by kernel_rfl) rfl, fun y _ V hV => c153_calls _ x y V (blk_below G1'.out hV)⟩).mono ?_
    rintro e w4 ⟨rfl, hb4⟩
    have HB4 := Lib.hid hb4
    have G1'' := Lib.hid (blk_below G1'.out hb4)
    generalize (l.any fun y => y.vo == 0 && y.id == x.vo) = a3 at HE1 ⊢
    cases a3 with
    | false =>
      have HE : Hid (errNext l x = 5) := by rw [HE1.out]; rfl
      clear hb4
      go_wp2_with fail
      exact bodyPost_ret (v := iv (errNext l x)) (by rw [HE.out]; simp [results, Tryz.results93, go_sem]) rfl ⟨rfl, bl_step HB3.out HB4.out⟩
    | true =>
    clear hb4
    go_wp2_with fail
    refine (HA.out _ (H13.out.trans (HB4.out.mono H13.out.size)) (gf := 154) (fun y => y.vo == x.vo) ⟨enters_of Tryz.func154 (by kernel_rfl) rfl, fun y _ V hV => c154_calls _ x y V (blk_below G1''.out hV)⟩).mono ?_
    rintro e w5 ⟨rfl, hb5⟩
    have HB5 := Lib.hid hb5
    generalize (l.any fun y => y.vo == x.vo) = a4 at HE1 ⊢
    clear hb5
    cases a4 with
    | true =>
      have HE : Hid (errNext l x = 6) := by rw [HE1.out]; rfl
      go_wp2_with fail
      exact bodyPost_ret (v := iv (errNext l x)) (by rw [HE.out]; simp [results, Tryz.results93, go_sem]) rfl ⟨rfl, bl_step (bl_step HB3.out HB4.out) HB5.out⟩
    | false =>
      have HE : Hid (errNext l x = 0) := by rw [HE1.out]; rfl
      go_wp2_with fail
      exact bodyPost_ret (v := iv (errNext l x)) (by rw [HE.out]; simp [results, Tryz.results93, go_sem]) rfl ⟨rfl, bl_step (bl_step HB3.out HB4.out) HB5.out⟩
end Go.Proofs.YtjekioabkmijbaaGreatDoor
/- The log whole. -/
set_option linter.unusedVariables false
set_option linter.unusedSimpArgs false
namespace Go.Proofs.YtjekioabkmijbaaGreatDoor
open Go.RowKit
/-- The first k records are well. -/
def okTo (l : List DWind) (k : Nat) : Prop := ∀ j x, j < k → l[j]? = some x → errNext (l.take j) x = 0
theorem errLog_to (l : List DWind) : ∀ k, k ≤ l.length → okTo l k → errLog l = errLogFrom (l.take k) (l.drop k)
  | 0, _, _ => rfl
  | k + 1, hk, h => by
    rw [errLog_to l k (by omega) (fun j x hj => h j x (by omega))]
    have hx : l[k]? = some l[k] := List.getElem?_eq_getElem (by omega)
    rw [List.drop_eq_getElem_cons (by omega), errLogFrom, if_pos (h k _ (by omega) hx), List.take_add_one, hx]
    rfl
theorem errLog_ok {l : List DWind} (h : okTo l l.length) : errLog l = (0, 0) := by
  rw [errLog_to l l.length (Nat.le_refl _) h, List.drop_length]; rfl
theorem errLog_bad {l : List DWind} {k : Nat} {x : DWind} (hx : l[k]? = some x) (h : okTo l k) (he : errNext (l.take k) x ≠ 0) : errLog l = ((k : Int), errNext (l.take k) x) := by
  obtain ⟨hk, e⟩ := List.getElem?_eq_some_iff.1 hx
  rw [errLog_to l k (by omega) h, List.drop_eq_getElem_cons hk, errLogFrom, e, if_neg he, List.length_take, Nat.min_eq_left (by omega)]
theorem Sl.take {α : Type} {cs : α → List Value} {k : Nat} {w : World} {A : Option Addr} {n c : Nat} {xs : List α} (h : Sl cs k w (.slice A n c) xs) (m : Nat) (hm : m ≤ xs.length) (c' : Nat) (hc : m ≤ c') : Sl cs k w (.slice A m c') (xs.take m) := by
  obtain ⟨A', c0, e, hc0, hl, hg⟩ := h
  cases e
  exact ⟨A, c', by rw [List.length_take, Nat.min_eq_left hm], by rw [List.length_take]; omega, by rw [List.length_take]; omega, fun i x hx => by
    rw [List.getElem?_take] at hx
    split at hx
    · exact hg i x hx
    · cases hx⟩
set_option maxHeartbeats 2000000 in
set_option maxRecDepth 20000 in
theorem check_calls (l : List DWind) (v : Value) (w : World) (hs : Sl DWind.cs 9 w v l) :
    Calls Tryz.prog 52 #[v] w fun e w' => e = .returned (.tuple #[iv (errLog l).1, iv (errLog l).2]) ∧ Below w.heap.size w w' := by
  obtain ⟨A, c, rfl, hc, hl⟩ := hs.open_
  have HS := Lib.hid hs
  clear hs
  go_enter Tryz.func52, Tryz.ntmps52
  go_wp2
  go_loopg [9] l.length (fun n i wr => ∃ k : Nat, k ≤ l.length ∧ n = l.length - k ∧ i = .int .i64 k ∧ Hid (Below w.heap.size w wr) ∧ Hid (okTo l k))
  case atStart => exact ⟨0, by omega, by omega, rfl, Below.refl _ _, fun j y hj => by omega⟩
  case round =>
    obtain ⟨k, hk, hn, rfl, HB, H0⟩ := hrel
    by_cases hlt : k < l.length
    · have hx : l[k]? = some l[k] := List.getElem?_eq_getElem hlt
      obtain ⟨x, hxe⟩ : ∃ x, x = l[k] := ⟨_, rfl⟩
      rw [← hxe] at hx
      clear hxe
      obtain ⟨b, o, rfl, c0, c1, c2, c3, c4, c5, c6, c7, c8⟩ := (HS.out.below HB.out).wind k _ hx
      have HX := Lib.hid hx
      have hki : (k : Int) < (l.length : Int) := by omega
      have hk0 : (0 : Int) ≤ (k : Int) := by omega
      have hkc : (k : Int) ≤ (c : Int) := by omega
      have hkc' : k ≤ c := by omega
      clear hx
      go_wp2_with fail
      refine wp_abs (fun W hW => ?_)
      have g5 : W.heap[wr.heap.size]? = some (.cells (windA x) 53 (0, 0)) := by rw [hW]; exact blk_new _ _
      have hB : Below wr.heap.size wr W := by rw [hW]; exact bl_alloc (Below.refl _ _) _
      clear hW
      obtain ⟨d0, d1, d2, d3, d4, d5, d6, d7, d8⟩ := wind_cells g5
      have l5 := blk_lt g5
      have HSW := Lib.hid (((HS.out.below HB.out).below hB).take k hk k (Nat.le_refl _))
      have HBW := Lib.hid (bl_step HB.out hB)
      have FC : Hid (∀ V, Below W.heap.size W V → Calls Tryz.prog 93 #[.slice (some ⟨b, o, none⟩) k k, windV x] V fun e w' => e = .returned (iv (errNext (l.take k) x)) ∧ Below V.heap.size V w') := fun V hV => follows_calls (l.take k) x _ V (HSW.out.below hV)
      clear g5 hB
      go_region_held3 (fun V => (∀ b o, b < W.heap.size → V.cell? ⟨b, o, none⟩ = W.cell? ⟨b, o, none⟩) ∧ Hid (Below W.heap.size W V)) (first | exact sees_start W | exact sees_step (by assumption) hb7) (first | (go_at_call 93; refine (FC.out _ (Hid.out (And.right (by assumption)))).mono ?_; rintro e w' ⟨rfl, hb7⟩))
      have hbx := (And.right ‹_ ∧ Hid _›).out
      have HBX := Lib.hid (bl_step HBW.out hbx)
      obtain ⟨er, her⟩ : ∃ er, er = errNext (l.take k) x := ⟨_, rfl⟩
      rw [← her]
      have HER := Lib.hid her
      clear hbx her d0 d1 d2 d3 d4 d5 d6 d7 d8 c0 c1 c2 c3 c4 c5 c6 c7 c8
      by_cases h0 : er = 0
      · subst h0
        go_wp2
        go_roundg (l.length - (k + 1))
        case measure => omega
        case rel => exact ⟨k + 1, by omega, rfl, by go_num, HBX.out, fun j y hj hy => by
          rcases Nat.lt_or_ge j k with h | h
          · exact H0.out j y h hy
          · obtain rfl : j = k := by omega
            have hx := HX.out
            rw [hy] at hx
            cases hx
            exact HER.out.symm⟩
      · have HE : Hid (errLog l = ((k : Int), er)) := by rw [HER.out]; exact errLog_bad HX.out H0.out (by rw [← HER.out]; exact h0)
        have e0 : (er == 0) = false := by simp [h0]
        go_wp2
        refine bodyPost_ret (v := .tuple #[iv (errLog l).1, iv (errLog l).2]) (by rw [HE.out]; simp [results, Tryz.results52, go_sem]) rfl ⟨rfl, HBX.out⟩
    · obtain rfl : k = l.length := by omega
      go_wp2
      have HE : Hid (errLog l = (0, 0)) := errLog_ok H0.out
      refine bodyPost_ret (v := .tuple #[iv (errLog l).1, iv (errLog l).2]) (by rw [HE.out]; simp [results, Tryz.results52, go_sem]) rfl ⟨rfl, HB.out⟩
end Go.Proofs.YtjekioabkmijbaaGreatDoor
set_option linter.unusedVariables false
set_option linter.unusedSimpArgs false
namespace Go.Proofs.YtjekioabkmijbaaGreatDoor
open Go.RowKit
theorem opIn_of_op {r : Option Nat} {P : Program} {o : Oper} {Q : Exit → Act → World → Prop} (hd : ∀ c, o.op ≠ .defer c) {K : Act → World → Prop} {a : Act} {w : World} (h : o.wp P a w K Q) : o.wpIn (FW r) 0 P a w K Q := by
  refine ⟨fun _ _ => trivial, ?_⟩
  rw [Oper.semAt_eq _ _ _ hd]
  unfold Oper.wp at h
  cases hr : (execOp a.eval o).run P w with
  | ok v w' =>
    rw [hr] at h
    cases v with
    | value u => exact h
    | skip => exact h
    | defer d => exact h
    | enter f args =>
      refine ⟨fun h => by simp [Fence.wide] at h, callsW.2 (Calls.mono h fun e w'' he => ?_)⟩
      cases e <;> exact he
    | row row args => exact ⟨fun h => by simp [Fence.wide] at h, fun c cs _ => let ⟨v, w', hq, s⟩ := h c cs; ⟨v, w', hq, stepsIn_wide.2 s⟩⟩
    | _ => exact h.elim
  | halt x w' =>
    rw [hr] at h
    cases x with
    | panic u => exact h
    | _ => exact h.elim
theorem opsIn_of_ops {r : Option Nat} {P : Program} {ops : Array Oper} {Q : Exit → Act → World → Prop} (hd : ∀ o ∈ ops, ∀ c, o.op ≠ .defer c) (hL : ¬ LetsOut Q) : ∀ (L : List Nat) (a : Act) (w : World), wpOps P ops Q L a w → wpOpsIn (FW r) 0 P ops Q L a w := by
  intro L
  induction L with
  | nil => exact fun a w h => h
  | cons i rest ih =>
    intro a w h
    simp only [wpOps] at h
    simp only [wpOpsIn]
    cases ho : ops[i]? with
    | none => rw [ho] at h; exact ih _ _ h
    | some o =>
      rw [ho] at h
      dsimp only at h ⊢
      split
      · rename_i hw
        rw [if_pos hw] at h
        have h := h.resolve_right (fun h => hL h.2)
        exact Oper.wpIn_mono (fun a w => ih a w) (opIn_of_op (r := r) (hd o (Array.mem_of_getElem? ho)) h)
      · rename_i hw
        rw [if_neg hw] at h
        exact ⟨fun _ _ => trivial, ih _ _ h⟩
theorem region_round {r : Option Nat} {P : Program} {id : Nat} {ops : Array Oper} {Q : Exit → Act → World → Prop} {a : Act} {w : World} (S : World → Prop) (hm : P.follows .mixedOrders = true) (hd : ∀ o ∈ ops, ∀ c, o.op ≠ .defer c) (hL : ¬ LetsOut Q)
    (hS : S w.drew) (h : S w.drew → wpAnyH P .any ops Q S ops.size (Array.replicate ops.size false) a w.drew) : (Code.region id ops true).wpIn (FW r) 0 P Q a w :=
  wpIn_region_draw fun t => by
    simp only [Region.schedule, hm, Bool.true_or, if_true]
    exact opsIn_of_ops hd hL _ _ _ (wpAny_sound ops.size t _ a _ (wpAny_of_held _ _ _ _ (h hS)))
theorem rnd_lets {α : Type} {K : Nat → Prop} {I : (Nat → Prop) → List α → World → Prop} {Ix : Code → (Nat → Prop) → List α → World → Prop} {Y : Nat → Prop} {xs : List α} {W : World} : ¬ LetsOut (rndPost K I Ix Y xs W) := by
  rintro ⟨a, w, h⟩; exact h
end Go.Proofs.YtjekioabkmijbaaGreatDoor
