/- slices.DeleteFunc of winds: the plain part. -/
import Derived.Test.YtjekioabkmijbaaGreatDoorZ07
import Derived.Test.YtjekioabkmijbaaGreatDoorZ09
set_option linter.unusedVariables false
set_option linter.unusedSimpArgs false
namespace Go.Proofs.YtjekioabkmijbaaGreatDoor
open Go.RowKit
/-- x lies in the cells of place r. -/
def RowAt (cur : Array Value) (r : Nat) (x : DWind) : Prop := ∀ t u, (DWind.cs x)[t]? = some u → cur[r * 9 + t]? = some u
theorem RowAt.cells {W : World} {g r : Nat} {cur : Array Value} {e : TypeId} {f : Nat × Nat} {x : DWind} (h : W.heap[g]? = some (.cells cur e f)) (hr : RowAt cur r x) :
    W.cell? ⟨g, r * 9, none⟩ = some (iv x.id) ∧ W.cell? ⟨g, r * 9 + 1, none⟩ = some (iv x.kn) ∧ W.cell? ⟨g, r * 9 + 2, none⟩ = some (iv x.fr) ∧ W.cell? ⟨g, r * 9 + 3, none⟩ = some (iv x.un) ∧ W.cell? ⟨g, r * 9 + 4, none⟩ = some (iv x.al) ∧ W.cell? ⟨g, r * 9 + 5, none⟩ = some (iv x.ah) ∧ W.cell? ⟨g, r * 9 + 6, none⟩ = some (iv x.sl) ∧ W.cell? ⟨g, r * 9 + 7, none⟩ = some (iv x.sh) ∧ W.cell? ⟨g, r * 9 + 8, none⟩ = some (iv x.vo) :=
  ⟨(blk_cell h _).trans (hr 0 _ rfl), (blk_cell h _).trans (hr 1 _ rfl), (blk_cell h _).trans (hr 2 _ rfl), (blk_cell h _).trans (hr 3 _ rfl), (blk_cell h _).trans (hr 4 _ rfl), (blk_cell h _).trans (hr 5 _ rfl), (blk_cell h _).trans (hr 6 _ rfl), (blk_cell h _).trans (hr 7 _ rfl), (blk_cell h _).trans (hr 8 _ rfl)⟩
def set9 (cur : Array Value) (i : Nat) (x : DWind) : Array Value :=
  ((((((((cur.setIfInBounds (i * 9) (iv x.id)).setIfInBounds (i * 9 + 1) (iv x.kn)).setIfInBounds (i * 9 + 2) (iv x.fr)).setIfInBounds (i * 9 + 3) (iv x.un)).setIfInBounds (i * 9 + 4) (iv x.al)).setIfInBounds (i * 9 + 5) (iv x.ah)).setIfInBounds (i * 9 + 6) (iv x.sl)).setIfInBounds (i * 9 + 7) (iv x.sh)).setIfInBounds (i * 9 + 8) (iv x.vo)
theorem set9_size (cur : Array Value) (i : Nat) (x : DWind) : (set9 cur i x).size = cur.size := by simp [set9]
theorem set9_same {cur : Array Value} {i : Nat} (x : DWind) (h : i * 9 + 9 ≤ cur.size) : RowAt (set9 cur i x) i x := by
  intro t u hu
  have ht : t < 9 := (List.getElem?_eq_some_iff.1 hu).1
  have : t = 0 ∨ t = 1 ∨ t = 2 ∨ t = 3 ∨ t = 4 ∨ t = 5 ∨ t = 6 ∨ t = 7 ∨ t = 8 := by omega
  unfold set9
  rcases this with rfl | rfl | rfl | rfl | rfl | rfl | rfl | rfl | rfl <;>
    · simp only [Array.getElem?_setIfInBounds, Array.size_setIfInBounds]
      simp only [DWind.cs, List.getElem?_cons_zero, List.getElem?_cons_succ, Option.some.injEq] at hu
      subst hu
      simp
      omega
theorem set9_other {cur : Array Value} {i r : Nat} {x y : DWind} (h : r ≠ i) (hr : RowAt cur r y) : RowAt (set9 cur i x) r y := by
  intro t u hu
  have ht : t < 9 := (List.getElem?_eq_some_iff.1 hu).1
  unfold set9
  simp only [Array.getElem?_setIfInBounds]
  rw [if_neg (by omega), if_neg (by omega), if_neg (by omega), if_neg (by omega), if_neg (by omega), if_neg (by omega), if_neg (by omega), if_neg (by omega), if_neg (by omega)]
  exact hr t u hu
/-- The winds of the first j that stay. -/
def keep (p : DWind → Bool) (l : List DWind) (j : Nat) : List DWind := (l.take j).filter fun x => !p x
theorem keep_succ {p : DWind → Bool} {l : List DWind} {j : Nat} {x : DWind} (h : l[j]? = some x) : keep p l (j + 1) = if p x then keep p l j else keep p l j ++ [x] := by
  unfold keep
  rw [List.take_add_one, h, List.filter_append]
  cases hp : p x <;> simp [hp]
theorem keep_len (p : DWind → Bool) (l : List DWind) (j : Nat) : (keep p l j).length ≤ j := by
  unfold keep
  exact Nat.le_trans (List.length_filter_le _ _) (by rw [List.length_take]; exact Nat.min_le_left _ _)
theorem keep_all (p : DWind → Bool) (l : List DWind) : keep p l l.length = l.filter fun x => !p x := by unfold keep; rw [List.take_length]
theorem keep_first {p : DWind → Bool} {l : List DWind} {k : Nat} (h0 : ∀ j y, j < k → l[j]? = some y → p y = false) : keep p l k = l.take k := by
  unfold keep
  rw [List.filter_eq_self]
  intro x hx
  obtain ⟨j, hj, e⟩ := List.getElem_of_mem hx
  rw [List.length_take] at hj
  rw [List.getElem_take] at e
  rw [h0 j x (by omega) (by rw [← e]; exact List.getElem?_eq_getElem (by omega))]
  rfl
/-- The row at round j. -/
def DelSt (p : DWind → Bool) (l : List DWind) (j : Nat) (cur : Array Value) : Prop :=
  (∀ r x, (keep p l j)[r]? = some x → RowAt cur r x) ∧ (∀ r x, j ≤ r → l[r]? = some x → RowAt cur r x)
theorem DelSt.start {p : DWind → Bool} {l : List DWind} {k : Nat} {x : DWind} {cur : Array Value} (hx : l[k]? = some x) (hp : p x = true) (h0 : ∀ j y, j < k → l[j]? = some y → p y = false) (hc : ∀ r y, l[r]? = some y → RowAt cur r y) : DelSt p l (k + 1) cur ∧ (keep p l (k + 1)).length = k := by
  have hk := (List.getElem?_eq_some_iff.1 hx).1
  rw [DelSt, keep_succ hx, if_pos hp, keep_first h0]
  refine ⟨⟨fun r y hy => ?_, fun r y _ hy => hc r y hy⟩, by rw [List.length_take]; omega⟩
  rw [List.getElem?_take] at hy
  split at hy
  · exact hc r y hy
  · cases hy
theorem DelSt.gone {p : DWind → Bool} {l : List DWind} {j : Nat} {x : DWind} {cur : Array Value} (h : DelSt p l j cur) (hx : l[j]? = some x) (hp : p x = true) : DelSt p l (j + 1) cur := by
  rw [DelSt, keep_succ hx, if_pos hp]
  exact ⟨h.1, fun r y hr hy => h.2 r y (by omega) hy⟩
theorem DelSt.kept {p : DWind → Bool} {l : List DWind} {j : Nat} {x : DWind} {cur : Array Value} (h : DelSt p l j cur) (hx : l[j]? = some x) (hp : p x = false) (hs : (keep p l j).length * 9 + 9 ≤ cur.size) : DelSt p l (j + 1) (set9 cur (keep p l j).length x) := by
  have hk := keep_len p l j
  rw [DelSt, keep_succ hx, hp, if_neg (by simp)]
  refine ⟨fun r y hy => ?_, fun r y hr hy => set9_other (by omega) (h.2 r y (by omega) hy)⟩
  rcases Nat.lt_or_ge r (keep p l j).length with hr | hr
  · rw [List.getElem?_append_left hr] at hy
    exact set9_other (by omega) (h.1 r y hy)
  · rw [List.getElem?_append_right hr] at hy
    have hr0 : r - (keep p l j).length = 0 := by
      have := (List.getElem?_eq_some_iff.1 hy).1
      simp at this; omega
    rw [hr0] at hy
    simp at hy
    subst hy
    have : r = (keep p l j).length := by omega
    subst this
    exact set9_same _ hs
/-- The row's first part, as a row of one's own. -/
theorem rows_take {cur : Array Value} {xs : List DWind} (h : ∀ r x, xs[r]? = some x → RowAt cur r x) (hs : xs.length * 9 ≤ cur.size) : cur.toList.take (xs.length * 9) = xs.flatMap DWind.cs := by
  apply List.ext_getElem?
  intro q
  rw [List.getElem?_take]
  split
  · rename_i hq
    have hq' : q < (xs.flatMap DWind.cs).length := by rw [flatMap_len (cs := DWind.cs) (k := 9) (fun _ => rfl)]; exact hq
    have hu : (xs.flatMap DWind.cs)[q]? = some (xs.flatMap DWind.cs)[q] := List.getElem?_eq_getElem hq'
    obtain ⟨i, t, x, rfl, hx, ht⟩ := flatMap_inv (cs := DWind.cs) (k := 9) (fun _ => rfl) (by decide) hu
    rw [hu, Array.getElem?_toList]
    exact h i x hx t _ ht
  · rename_i hq
    rw [List.getElem?_eq_none]
    rw [flatMap_len (cs := DWind.cs) (k := 9) (fun _ => rfl)]; omega
theorem rows_of {cur : Array Value} {xs : List DWind} (h : cur.toList.take (xs.length * 9) = xs.flatMap DWind.cs) : ∀ r x, xs[r]? = some x → RowAt cur r x := by
  intro r x hx t u hu
  have hg := flatMap_get (cs := DWind.cs) (k := 9) (fun _ => rfl) xs r t x u hx hu
  rw [← h, List.getElem?_take] at hg
  split at hg
  · rw [← Array.getElem?_toList]; exact hg
  · cases hg
end Go.Proofs.YtjekioabkmijbaaGreatDoor
