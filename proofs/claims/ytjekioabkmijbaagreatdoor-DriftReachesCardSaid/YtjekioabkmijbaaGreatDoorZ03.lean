/- Sets of places: add, has, joined, within. -/
import Derived.Test.YtjekioabkmijbaaGreatDoorZ02
set_option linter.unusedVariables false
set_option linter.unusedSimpArgs false
namespace Go.Proofs.YtjekioabkmijbaaGreatDoor
open Go.RowKit
def setA (m : Nat) : Array Value := #[.int .u64 (wd m 0), .int .u64 (wd m 1), .int .u64 (wd m 2), .int .u64 (wd m 3), .int .u64 (wd m 4)]
theorem setA_get (m i : Nat) (h : i < 5) : (setA m)[i]? = some (.int .u64 (wd m i)) := by
  have : i = 0 ∨ i = 1 ∨ i = 2 ∨ i = 3 ∨ i = 4 := by omega
  rcases this with rfl | rfl | rfl | rfl | rfl <;> rfl
def okP (p : DPlace) : Prop := 0 ≤ p.c ∧ p.c ≤ 39 ∧ 0 ≤ p.b ∧ p.b ≤ 6
theorem numberN_calls (p : DPlace) (n : Nat) (w : World) (hp : okP p) (hn : Hid (n = num p)) :
    Calls Tryz.prog 147 #[placeV p] w fun e w' => e = .returned (iv (n : Nat)) ∧ Below w.heap.size w w' := by
  obtain rfl := hn.out
  exact number_calls p w hp.1 hp.2.1 hp.2.2.1 hp.2.2.2
theorem grown_set {w V : World} (hb : Below w.heap.size w V) (g i : Nat) (u : Value) : w.grownBy (V.setCell ⟨g, i, none⟩ u) (some g) :=
  ⟨hb.os, hb.tape, hb.output, by have := hb.size; simpa [World.setCell] using this, fun k hk hne => (Below.heap_setCell _ _ _ _ (fun e => hne (by rw [e]))).trans (hb.block k hk)⟩
theorem setA_add {m n q r : Nat} {p : DPlace} (hn : n = num p) (hl : n < 320) (hq : q = n / 64) (hr : r = n % 64) :
    (setA m).setIfInBounds q (.int .u64 (bits .or .u64 (wd m q) (IntKind.u64.wrap (2 ^ r)))) = setA (m ||| bit p) := by
  have e1 : bit p = 1 <<< n := by rw [hn]; rfl
  have hlt : (2 : Int) ^ r < 18446744073709551616 := by
    have : 2 ^ r < 2 ^ 64 := Nat.pow_lt_pow_right (by omega) (by omega)
    have h2 : ((2 ^ r : Nat) : Int) < ((2 ^ 64 : Nat) : Int) := by exact_mod_cast this
    simpa using h2
  have h0 : (0 : Int) ≤ 2 ^ r := Int.le_of_lt (Int.pow_pos (by omega))
  rw [IntWalk.u64_in _ ⟨h0, by omega⟩, e1]
  subst hq hr
  rw [wd_add]
  apply Array.ext_getElem?
  intro i
  rw [Array.getElem?_setIfInBounds]
  by_cases hi : i < 5
  · rw [setA_get _ _ hi, setA_get _ _ hi]
    split
    · rename_i h; subst h; simp [setA]; exact hi
    · rename_i h; rw [wd_other _ _ _ (fun e => h e.symm)]
  · have g1 : ∀ m', (setA m')[i]? = none := fun m' => Array.getElem?_eq_none (by simp [setA]; omega)
    rw [g1, g1]
    split
    · rename_i h; omega
    · rfl
set_option maxHeartbeats 2000000 in
theorem add_calls (g m : Nat) (p : DPlace) (w : World) (hp : okP p) (hg : w.heap[g]? = some (.cells (setA m) 115 (0, 0))) :
    Calls Tryz.prog 126 #[.pointer (some ⟨g, 0, none⟩), placeV p] w fun e w' => e = .returned (.tuple #[]) ∧ w'.heap[g]? = some (.cells (setA (m ||| bit p)) 115 (0, 0)) ∧ w.grownBy w' (some g) := by
  have HP := Lib.hid hp
  obtain ⟨p1, p2, p3, p4⟩ := hp
  have hn : num p < 320 := by unfold num; omega
  obtain ⟨n, hN⟩ : ∃ n, n = num p := ⟨_, rfl⟩
  have HN : Hid (n = num p) := hN
  rw [← hN] at hn
  clear hN p1 p2 p3 p4
  obtain ⟨q, hq⟩ : ∃ q, q = n / 64 := ⟨_, rfl⟩
  obtain ⟨r, hr⟩ : ∃ r, r = n % 64 := ⟨_, rfl⟩
  have q1 : IntKind.i64.wrap ((n : Int).tdiv 64) = (q : Int) := by rw [IntWalk.i64_quo _ _ (by omega)]; omega
  have q2 : (n : Int).tmod 64 = (r : Int) := by rw [IntWalk.rem_in _ _ (by omega)]; omega
  have q3 : (n : Int) / 64 = (q : Int) := by omega
  have q4 : (n : Int) % 64 = (r : Int) := by omega
  have q5 : IntKind.i64.wrap (q : Int) = (q : Int) := IntWalk.i64_in _ (by omega)
  have k5 : (q : Int) < 5 := by omega
  have k6 : q < 5 := by omega
  have k7 : r < 64 := by omega
  have HQ : Hid (q = n / 64) := hq
  have HR : Hid (r = n % 64) := hr
  clear hq hr
  have hgl := blk_lt hg
  have hc : w.cell? ⟨g, q, none⟩ = some (.int .u64 (wd m q)) := (blk_cell hg _).trans (setA_get _ _ (by omega))
  have hf : w.frozen? ⟨g, q, none⟩ = false := blk_frozen hg _
  go_enter Tryz.func126, Tryz.ntmps126
  go_wp2
  go_region_with (go_at_call 147; refine (numberN_calls p n _ HP.out HN).mono ?_; rintro e w' ⟨rfl, hb⟩; obtain ⟨hcc, hff⟩ := bcell hb; have hz : w.heap.size < w'.heap.size := (by have hq := hb.size; (try simp at hq); omega); have hz2 : g < w'.heap.size := (by omega))
  all_goals go_end0
  all_goals refine ⟨rfl, ?_, ?_⟩
  all_goals first
    | (rw [← setA_add HN.out (Hid.out (p := n < 320) (by assumption)) HQ.out HR.out]; refine blk_set ?_ _ _; repeat (first | exact hg | refine blk_alloc ?_ _ | (refine blk_below ?_ (by assumption))))
    | (refine grown_set ?_ _ _ _; repeat (first | exact Below.refl _ _ | apply bl_alloc | apply Below.drew | (refine bl_step ?_ (by assumption))))
theorem setV_arr (m : Nat) : setV m = .agg (setA m) := rfl
set_option maxHeartbeats 1000000 in
theorem has_calls (m : Nat) (p : DPlace) (w : World) (hp : okP p) :
    Calls Tryz.prog 86 #[setV m, placeV p] w fun e w' => e = .returned (.bool (hasM m p)) ∧ Below w.heap.size w w' := by
  have HP := Lib.hid hp
  obtain ⟨p1, p2, p3, p4⟩ := hp
  have hn : num p < 320 := by unfold num; omega
  obtain ⟨n, hN⟩ : ∃ n, n = num p := ⟨_, rfl⟩
  have HN : Hid (n = num p) := hN
  rw [← hN] at hn
  clear hN p1 p2 p3 p4
  obtain ⟨q, hq⟩ : ∃ q, q = n / 64 := ⟨_, rfl⟩
  obtain ⟨r, hr⟩ : ∃ r, r = n % 64 := ⟨_, rfl⟩
  have q1 : IntKind.i64.wrap ((n : Int).tdiv 64) = (q : Int) := by rw [IntWalk.i64_quo _ _ (by omega)]; omega
  have q2 : (n : Int).tmod 64 = (r : Int) := by rw [IntWalk.rem_in _ _ (by omega)]; omega
  have q3 : (n : Int) / 64 = (q : Int) := by omega
  have q4 : (n : Int) % 64 = (r : Int) := by omega
  have q5 : IntKind.i64.wrap (q : Int) = (q : Int) := IntWalk.i64_in _ (by omega)
  have k5 : (q : Int) < 5 := by omega
  have k6 : q < 5 := by omega
  have k7 : r < 64 := by omega
  have HQ : Hid (q = n / 64) := hq
  have HR : Hid (r = n % 64) := hr
  clear hq hr
  rw [setV_arr]
  go_enter Tryz.func86, Tryz.ntmps86
  go_wp2
  refine wp_abs (fun W hW => ?_)
  have hcell : W.cell? ⟨w.heap.size, q, none⟩ = some (.int .u64 (wd m q)) := by
    rw [hW]; exact (blk_cell (blk_alloc (blk_new _ _) _) q).trans (setA_get _ _ k6)
  have hB : Below w.heap.size w W := by rw [hW]; exact bl_alloc (bl_alloc (Below.refl _ _) _) _
  have h1 : W.cell? ⟨w.heap.size + 1, 0, none⟩ = some (.int .i64 p.c) := by rw [hW]; simp [go_sem]
  have h2 : W.cell? ⟨w.heap.size + 1, 1, none⟩ = some (.int .i64 p.b) := by rw [hW]; simp [go_sem]
  have h3 : w.heap.size < W.heap.size := by rw [hW]; simp; omega
  have h4 : w.heap.size + 1 < W.heap.size := by rw [hW]; simp
  clear hW
  go_region_held3 (fun V => (∀ b o, b < W.heap.size → V.cell? ⟨b, o, none⟩ = W.cell? ⟨b, o, none⟩) ∧ Hid (Below W.heap.size W V)) (first | exact sees_start W | exact sees_step (by assumption) hb7) (first | (go_at_call 147; refine (numberN_calls p n _ HP.out HN).mono ?_; rintro e w' ⟨rfl, hb7⟩))
  go_wp2
  go_ret
  refine ⟨?_, hB.trans (Below.mono (And.right ‹_ ∧ Hid _›).out hB.size)⟩
  rw [HQ.out, HR.out, wd_has]
  unfold hasM
  rw [HN.out]
  rfl
theorem or_step (x y : Nat) (i : Nat) (hi : i < 5) (A : Array Value) (hA : A.size = 5) (h0 : ∀ j, j < i → A[j]? = some (.int .u64 (wd (x ||| y) j))) (h1 : ∀ j, i ≤ j → j < 5 → A[j]? = some (.int .u64 (wd x j))) :
    (∀ j, j < i + 1 → (A.setIfInBounds i (.int .u64 (bits .or .u64 (wd x i) (wd y i))))[j]? = some (.int .u64 (wd (x ||| y) j))) ∧ (∀ j, i + 1 ≤ j → j < 5 → (A.setIfInBounds i (.int .u64 (bits .or .u64 (wd x i) (wd y i))))[j]? = some (.int .u64 (wd x j))) := by
  rw [wd_or]
  refine ⟨fun j hj => ?_, fun j hj hj5 => ?_⟩
  · rw [Array.getElem?_setIfInBounds]
    split
    · rename_i h; subst h; simp [hA, hi]
    · exact h0 j (by omega)
  · rw [Array.getElem?_setIfInBounds, if_neg (by omega)]; exact h1 j (by omega) hj5
theorem setA_of {m : Nat} {A : Array Value} (hA : A.size = 5) (h : ∀ j, j < 5 → A[j]? = some (.int .u64 (wd m j))) : A = setA m := by
  apply Array.ext_getElem?
  intro i
  by_cases hi : i < 5
  · rw [h i hi, setA_get _ _ hi]
  · rw [Array.getElem?_eq_none (by omega), Array.getElem?_eq_none (by simp [setA]; omega)]
set_option maxHeartbeats 1000000 in
theorem joined_calls (x y : Nat) (w : World) :
    Calls Tryz.prog 135 #[setV x, setV y] w fun e w' => e = .returned (setV (x ||| y)) ∧ Below w.heap.size w w' := by
  rw [setV_arr, setV_arr, setV_arr]
  go_enter Tryz.func135, Tryz.ntmps135
  go_wp2
  go_loopg [6] 5 (fun n i wr => ∃ k : Nat, k ≤ 5 ∧ n = 5 - k ∧ i = .int .i64 k ∧ (∃ A, wr.heap[w.heap.size]? = some (.cells A 115 (0, 0)) ∧ Hid (A.size = 5 ∧ (∀ j, j < k → A[j]? = some (.int .u64 (wd (x ||| y) j))) ∧ (∀ j, k ≤ j → j < 5 → A[j]? = some (.int .u64 (wd x j))))) ∧ wr.heap[w.heap.size + 1]? = some (.cells (setA y) 115 (0, 0)) ∧ Below w.heap.size w wr ∧ wr.heap[w.heap.size + 1 + 1]? = some (.cells #[.int .u64 0, .int .u64 0, .int .u64 0, .int .u64 0, .int .u64 0] 115 (0, 0)))
  case atStart => exact ⟨0, by omega, by omega, rfl, ⟨_, blk_alloc (blk_alloc (blk_new _ _) _) _, rfl, fun j hj => absurd hj (by omega), fun j _ hj => setA_get _ _ hj⟩, blk_alloc (blk_at _ (by simp)) _, bl_alloc (bl_alloc (bl_alloc (Below.refl _ _) _) _) _, blk_at _ (by simp)⟩
  case round =>
    obtain ⟨k, hk, hn, rfl, ⟨A, hA, HA⟩, hy, hB, hBk⟩ := hrel
    obtain ⟨hA5, hA0, hA1⟩ := HA.out
    clear HA
    by_cases hlt : k < 5
    · have c0 : wr.cell? ⟨w.heap.size, k, none⟩ = some (.int .u64 (wd x k)) := (blk_cell hA k).trans (hA1 k (Nat.le_refl _) hlt)
      have c1 : wr.cell? ⟨w.heap.size + 1, k, none⟩ = some (.int .u64 (wd y k)) := (blk_cell hy k).trans (setA_get _ _ hlt)
      have f0 := blk_frozen hA k
      have HO : Hid _ := or_step x y k hlt A hA5 hA0 hA1
      clear hA0 hA1
      have kI : (k : Int) < 5 := by omega
      go_wp2
      go_region
      go_wp2
      go_roundg (5 - (k + 1))
      case measure => omega
      case rel => exact ⟨k + 1, by omega, rfl, by go_num, ⟨_, blk_set (w := wr.drew) hA k _, by simp [hA5], HO.out.1, HO.out.2⟩, blk_far (w := wr.drew) hy (by simp) _, (hB.drew).setCell (p := ⟨w.heap.size, k, none⟩) (Nat.le_refl _) _, blk_far (w := wr.drew) hBk (by simp; omega) _⟩
    · obtain rfl : k = 5 := by omega
      obtain rfl : A = setA (x ||| y) := setA_of hA5 (fun j hj => hA0 j (by omega))
      have c0 := blk_cell hA 0
      have c1 := blk_cell hA 1
      have c2 := blk_cell hA 2
      have c3 := blk_cell hA 3
      have c4 := blk_cell hA 4
      simp only [setA, List.getElem?_toArray, List.getElem?_cons_zero, List.getElem?_cons_succ] at c0 c1 c2 c3 c4
      have d0 := blk_cell hBk 0
      have d1 := blk_cell hBk 1
      have d2 := blk_cell hBk 2
      have d3 := blk_cell hBk 3
      have d4 := blk_cell hBk 4
      simp only [List.getElem?_toArray, List.getElem?_cons_zero, List.getElem?_cons_succ] at d0 d1 d2 d3 d4
      have f0 := blk_frozen hBk 0
      have f1 := blk_frozen hBk 1
      have f2 := blk_frozen hBk 2
      have f3 := blk_frozen hBk 3
      have f4 := blk_frozen hBk 4
      clear hA0 hA1 hA5 hy hA hBk
      go_wp2
      refine bodyPost_ret (v := setV (x ||| y)) (by simp [results, Tryz.results135, go_sem, d0, d1, d2, d3, d4]) rfl ⟨rfl, ?_⟩
      repeat (first | exact hB | refine Below.setCell ?_ (by first | (simp; done) | (simp; omega)) _)
end Go.Proofs.YtjekioabkmijbaaGreatDoor
