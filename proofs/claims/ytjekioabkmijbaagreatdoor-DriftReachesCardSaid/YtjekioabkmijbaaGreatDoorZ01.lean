/- Words for the walks: slices that are read, rows that a call owns, worlds that have grown. -/
import Derived.Test.YtjekioabkmijbaaGreatDoorProg
import Derived.Test.YtjekioabkmijbaaGreatDoorZ00
import Derived.Below
import Derived.Deep.Draws
import Derived.OwnWalk
import Derived.Laws.Slices
import Derived.WalkKit
import Derived.KernelRfl
import Derived.RowKit3
import Derived.Deep.LoopGhost
import Derived.Deep.QuietTactic
import Derived.BigQuiet
import Derived.WideLaws
import Derived.Deep.DeepCutAuto
import Derived.Deep.CutBlock
import Derived.Deep.RegionHeld3
import Derived.Laws.Rows
import Derived.OrdersHeld
import Derived.Laws.BitsLemmas
import Derived.RowKit
import Derived.Outline
import Derived.WalkLawsBesides
import Derived.WalkSpells
import Derived.Maps.AppendAt
import Derived.Laws.MakeOwn
import Derived.Laws.OwnMore
import Derived.Lib.Hide
set_option linter.unusedVariables false
set_option linter.unusedSimpArgs false
namespace Go.Proofs.YtjekioabkmijbaaGreatDoor
open Go.RowKit

/-! ### Values -/
abbrev iv (n : Int) : Value := .int .i64 n
def DTide.cs (x : DTide) : List Value := [iv x.al, iv x.ht]
def DPlace.cs (x : DPlace) : List Value := [iv x.c, iv x.b]
def DLand.cs (x : DLand) : List Value := [iv x.c, iv x.f, iv x.l]
def DWind.cs (x : DWind) : List Value := [iv x.id, iv x.kn, iv x.fr, iv x.un, iv x.al, iv x.ah, iv x.sl, iv x.sh, iv x.vo]
def DLoss.cs (x : DLoss) : List Value := [iv x.id, iv x.cl, iv x.ch, iv x.bl, iv x.bh, iv x.hl, iv x.hh]
def intCs (n : Int) : List Value := [iv n]
def strCs (s : ByteArray) : List Value := [.string s]
abbrev tideV (x : DTide) : Value := .agg #[iv x.al, iv x.ht]
abbrev placeV (x : DPlace) : Value := .agg #[iv x.c, iv x.b]
abbrev landV (x : DLand) : Value := .agg #[iv x.c, iv x.f, iv x.l]
abbrev windV (x : DWind) : Value := .agg #[iv x.id, iv x.kn, iv x.fr, iv x.un, iv x.al, iv x.ah, iv x.sl, iv x.sh, iv x.vo]
abbrev lossV (x : DLoss) : Value := .agg #[iv x.id, iv x.cl, iv x.ch, iv x.bl, iv x.bh, iv x.hl, iv x.hh]
/-- The i-th word of a set. -/
def wd (m i : Nat) : Int := ((m >>> (64 * i) % 18446744073709551616 : Nat) : Int)
abbrev setV (m : Nat) : Value := .agg #[.int .u64 (wd m 0), .int .u64 (wd m 1), .int .u64 (wd m 2), .int .u64 (wd m 3), .int .u64 (wd m 4)]
def setCs (m : Nat) : List Value := [.int .u64 (wd m 0), .int .u64 (wd m 1), .int .u64 (wd m 2), .int .u64 (wd m 3), .int .u64 (wd m 4)]

/-! ### A slice that is read -/
def Sl {α : Type} (cs : α → List Value) (k : Nat) (w : World) (v : Value) (xs : List α) : Prop :=
  ∃ A c, v = .slice A xs.length c ∧ xs.length ≤ c ∧ xs.length ≤ 17592186044416 ∧
    ∀ i x, xs[i]? = some x → ∃ b o, A = some ⟨b, o, none⟩ ∧ ∀ j u, (cs x)[j]? = some u → w.cell? ⟨b, o + i * k + j, none⟩ = some u
section
variable {α : Type} {cs : α → List Value} {k : Nat} {w w' : World} {v : Value} {xs : List α} {A : Option Addr} {n c : Nat}
theorem Sl.below (h : Sl cs k w v xs) (hb : Below w.heap.size w w') : Sl cs k w' v xs := by
  obtain ⟨A, c, e, h1, h2, h3⟩ := h
  refine ⟨A, c, e, h1, h2, fun i x hx => ?_⟩
  obtain ⟨b, o, e, hc⟩ := h3 i x hx
  exact ⟨b, o, e, fun j u hu => (hb.cell (World.block_lt_of_cell? w _ (hc j u hu))).trans (hc j u hu)⟩
theorem Sl.drewN (h : Sl cs k w v xs) (n : Nat) : Sl cs k (w.drewN n) v xs := h
theorem Sl.nil (w : World) : Sl cs k w (.slice none 0 0) [] := ⟨none, 0, rfl, Nat.le_refl _, by simp, fun i x h => by simp at h⟩
theorem Sl.open_ (h : Sl cs k w v xs) : ∃ A c, v = .slice A xs.length c ∧ xs.length ≤ c ∧ xs.length ≤ 17592186044416 := by
  obtain ⟨A, c, e, h1, h2, _⟩ := h; exact ⟨A, c, e, h1, h2⟩
theorem Sl.get (h : Sl cs k w (.slice A n c) xs) (i : Nat) (x : α) (hi : xs[i]? = some x) : ∃ b o, A = some ⟨b, o, none⟩ ∧ ∀ j u, (cs x)[j]? = some u → w.cell? ⟨b, o + i * k + j, none⟩ = some u := by
  obtain ⟨A', c', e, _, _, h3⟩ := h
  injection e with e1 e2 e3
  subst e1
  exact h3 i x hi
end
theorem Sl.int {w : World} {A : Option Addr} {n c : Nat} {xs : List Int} (h : Sl intCs 1 w (.slice A n c) xs) (i : Nat) (x : Int) (hi : xs[i]? = some x) :
    ∃ b o, A = some ⟨b, o, none⟩ ∧ w.cell? ⟨b, o + i, none⟩ = some (iv x) := by
  obtain ⟨b, o, e, hc⟩ := h.get i x hi
  exact ⟨b, o, e, by have := hc 0 _ rfl; rwa [Nat.add_zero, Nat.mul_one] at this⟩
theorem Sl.str {w : World} {A : Option Addr} {n c : Nat} {xs : List ByteArray} (h : Sl strCs 1 w (.slice A n c) xs) (i : Nat) (x : ByteArray) (hi : xs[i]? = some x) :
    ∃ b o, A = some ⟨b, o, none⟩ ∧ w.cell? ⟨b, o + i, none⟩ = some (.string x) := by
  obtain ⟨b, o, e, hc⟩ := h.get i x hi
  exact ⟨b, o, e, by have := hc 0 _ rfl; rwa [Nat.add_zero, Nat.mul_one] at this⟩
theorem Sl.tide {w : World} {A : Option Addr} {n c : Nat} {xs : List DTide} (h : Sl DTide.cs 2 w (.slice A n c) xs) (i : Nat) (x : DTide) (hi : xs[i]? = some x) :
    ∃ b o, A = some ⟨b, o, none⟩ ∧ w.cell? ⟨b, o + i * 2, none⟩ = some (iv x.al) ∧ w.cell? ⟨b, o + i * 2 + 1, none⟩ = some (iv x.ht) := by
  obtain ⟨b, o, e, hc⟩ := h.get i x hi
  exact ⟨b, o, e, hc 0 _ rfl, hc 1 _ rfl⟩
theorem Sl.place {w : World} {A : Option Addr} {n c : Nat} {xs : List DPlace} (h : Sl DPlace.cs 2 w (.slice A n c) xs) (i : Nat) (x : DPlace) (hi : xs[i]? = some x) :
    ∃ b o, A = some ⟨b, o, none⟩ ∧ w.cell? ⟨b, o + i * 2, none⟩ = some (iv x.c) ∧ w.cell? ⟨b, o + i * 2 + 1, none⟩ = some (iv x.b) := by
  obtain ⟨b, o, e, hc⟩ := h.get i x hi
  exact ⟨b, o, e, hc 0 _ rfl, hc 1 _ rfl⟩
theorem Sl.land {w : World} {A : Option Addr} {n c : Nat} {xs : List DLand} (h : Sl DLand.cs 3 w (.slice A n c) xs) (i : Nat) (x : DLand) (hi : xs[i]? = some x) :
    ∃ b o, A = some ⟨b, o, none⟩ ∧ w.cell? ⟨b, o + i * 3, none⟩ = some (iv x.c) ∧ w.cell? ⟨b, o + i * 3 + 1, none⟩ = some (iv x.f) ∧ w.cell? ⟨b, o + i * 3 + 2, none⟩ = some (iv x.l) := by
  obtain ⟨b, o, e, hc⟩ := h.get i x hi
  exact ⟨b, o, e, hc 0 _ rfl, hc 1 _ rfl, hc 2 _ rfl⟩
theorem Sl.loss {w : World} {A : Option Addr} {n c : Nat} {xs : List DLoss} (h : Sl DLoss.cs 7 w (.slice A n c) xs) (i : Nat) (x : DLoss) (hi : xs[i]? = some x) :
    ∃ b o, A = some ⟨b, o, none⟩ ∧ w.cell? ⟨b, o + i * 7, none⟩ = some (iv x.id) ∧ w.cell? ⟨b, o + i * 7 + 1, none⟩ = some (iv x.cl) ∧ w.cell? ⟨b, o + i * 7 + 2, none⟩ = some (iv x.ch) ∧ w.cell? ⟨b, o + i * 7 + 3, none⟩ = some (iv x.bl) ∧ w.cell? ⟨b, o + i * 7 + 4, none⟩ = some (iv x.bh) ∧ w.cell? ⟨b, o + i * 7 + 5, none⟩ = some (iv x.hl) ∧ w.cell? ⟨b, o + i * 7 + 6, none⟩ = some (iv x.hh) := by
  obtain ⟨b, o, e, hc⟩ := h.get i x hi
  exact ⟨b, o, e, hc 0 _ rfl, hc 1 _ rfl, hc 2 _ rfl, hc 3 _ rfl, hc 4 _ rfl, hc 5 _ rfl, hc 6 _ rfl⟩
theorem Sl.wind {w : World} {A : Option Addr} {n c : Nat} {xs : List DWind} (h : Sl DWind.cs 9 w (.slice A n c) xs) (i : Nat) (x : DWind) (hi : xs[i]? = some x) :
    ∃ b o, A = some ⟨b, o, none⟩ ∧ w.cell? ⟨b, o + i * 9, none⟩ = some (iv x.id) ∧ w.cell? ⟨b, o + i * 9 + 1, none⟩ = some (iv x.kn) ∧ w.cell? ⟨b, o + i * 9 + 2, none⟩ = some (iv x.fr) ∧ w.cell? ⟨b, o + i * 9 + 3, none⟩ = some (iv x.un) ∧ w.cell? ⟨b, o + i * 9 + 4, none⟩ = some (iv x.al) ∧ w.cell? ⟨b, o + i * 9 + 5, none⟩ = some (iv x.ah) ∧ w.cell? ⟨b, o + i * 9 + 6, none⟩ = some (iv x.sl) ∧ w.cell? ⟨b, o + i * 9 + 7, none⟩ = some (iv x.sh) ∧ w.cell? ⟨b, o + i * 9 + 8, none⟩ = some (iv x.vo) := by
  obtain ⟨b, o, e, hc⟩ := h.get i x hi
  exact ⟨b, o, e, hc 0 _ rfl, hc 1 _ rfl, hc 2 _ rfl, hc 3 _ rfl, hc 4 _ rfl, hc 5 _ rfl, hc 6 _ rfl, hc 7 _ rfl, hc 8 _ rfl⟩
theorem Sl.set {w : World} {A : Option Addr} {n c : Nat} {xs : List Nat} (h : Sl setCs 5 w (.slice A n c) xs) (i : Nat) (x : Nat) (hi : xs[i]? = some x) :
    ∃ b o, A = some ⟨b, o, none⟩ ∧ w.cell? ⟨b, o + i * 5, none⟩ = some (.int .u64 (wd x 0)) ∧ w.cell? ⟨b, o + i * 5 + 1, none⟩ = some (.int .u64 (wd x 1)) ∧ w.cell? ⟨b, o + i * 5 + 2, none⟩ = some (.int .u64 (wd x 2)) ∧ w.cell? ⟨b, o + i * 5 + 3, none⟩ = some (.int .u64 (wd x 3)) ∧ w.cell? ⟨b, o + i * 5 + 4, none⟩ = some (.int .u64 (wd x 4)) := by
  obtain ⟨b, o, e, hc⟩ := h.get i x hi
  exact ⟨b, o, e, hc 0 _ rfl, hc 1 _ rfl, hc 2 _ rfl, hc 3 _ rfl, hc 4 _ rfl⟩

/-! ### Worlds -/
theorem wp_abs {P : Program} {c : Code} {Q : Exit → Act → World → Prop} {a : Act} {w : World} (h : ∀ W, W = w → c.wp P Q a W) : c.wp P Q a w := h w rfl
theorem calls_abs {P : Program} {f : FuncId} {args : Array Value} {w : World} {R : Ending → World → Prop} (h : ∀ W, W = w → Calls P f args W R) : Calls P f args w R := h w rfl
theorem sees_start (W : World) : (∀ b o, b < W.heap.size → W.drew.cell? ⟨b, o, none⟩ = W.cell? ⟨b, o, none⟩) ∧ Hid (Below W.heap.size W W.drew) := ⟨fun _ _ _ => rfl, (Below.refl _ _).drew⟩
theorem sees_step {W V V' : World} (h : (∀ b o, b < W.heap.size → V.cell? ⟨b, o, none⟩ = W.cell? ⟨b, o, none⟩) ∧ Hid (Below W.heap.size W V)) (hb : Below V.heap.size V V') : (∀ b o, b < W.heap.size → V'.cell? ⟨b, o, none⟩ = W.cell? ⟨b, o, none⟩) ∧ Hid (Below W.heap.size W V') :=
  ⟨fun b o hl => (hb.cell (p := ⟨b, o, none⟩) (Nat.lt_of_lt_of_le hl h.2.out.size)).trans (h.1 b o hl), h.2.out.trans (hb.mono h.2.out.size)⟩
theorem bcell {W w1 : World} (hb : Below W.heap.size W w1) : (∀ b o, b < W.heap.size → w1.cell? ⟨b, o, none⟩ = W.cell? ⟨b, o, none⟩) ∧ (∀ b o, b < W.heap.size → w1.frozen? ⟨b, o, none⟩ = W.frozen? ⟨b, o, none⟩) :=
  ⟨fun b o h => hb.cell (p := ⟨b, o, none⟩) h, fun b o h => hb.frozen (p := ⟨b, o, none⟩) h⟩
theorem bl_drewN {B : Nat} {w w' : World} (h : Below B w w') (n : Nat) : Below B w (w'.drewN n) := ⟨h.os, h.tape, h.output, h.size, h.block⟩
theorem bl_then {B : Nat} {w w1 w2 : World} (h : Below B w w1) (hB : B ≤ w1.heap.size) (k : Below w1.heap.size w1 w2) : Below B w w2 := h.trans (k.mono hB)
theorem bl_step {w w1 w2 : World} (h : Below w.heap.size w w1) (k : Below w1.heap.size w1 w2) : Below w.heap.size w w2 := h.trans (k.mono h.size)
theorem bl_alloc {w w1 : World} (h : Below w.heap.size w w1) (o : Obj) : Below w.heap.size w (w1.alloc o) := h.alloc h.size o
theorem blk_cell {w : World} {g : Nat} {t : TypeId} {cs : Array Value} {f : Nat × Nat} (h : w.heap[g]? = some (.cells cs t f)) (i : Nat) : w.cell? ⟨g, i, none⟩ = cs[i]? := cell_of_row w g i cs t f h
theorem blk_frozen {w : World} {g : Nat} {t : TypeId} {cs : Array Value} (h : w.heap[g]? = some (.cells cs t (0, 0))) (i : Nat) : w.frozen? ⟨g, i, none⟩ = false := by simp [World.frozen?, h]
theorem blk_lt {w : World} {g : Nat} {o : Obj} (h : w.heap[g]? = some o) : g < w.heap.size := (Array.getElem?_eq_some_iff.1 h).1
theorem blk_new (w : World) (o : Obj) : (w.alloc o).heap[w.heap.size]? = some o := heap_alloc_new w o
theorem blk_at {w : World} {n : Nat} (o : Obj) (h : n = w.heap.size) : (w.alloc o).heap[n]? = some o := by subst h; exact heap_alloc_new w o
theorem blk_alloc {w : World} {g : Nat} {o : Obj} (h : w.heap[g]? = some o) (o' : Obj) : (w.alloc o').heap[g]? = some o := (Below.heap_alloc w o' g (blk_lt h)).trans h
theorem blk_below {w w1 : World} {g : Nat} {o : Obj} (h : w.heap[g]? = some o) (hb : Below w.heap.size w w1) : w1.heap[g]? = some o := (hb.block g (blk_lt h)).trans h
theorem blk_under {w w1 : World} {B g : Nat} {o : Obj} (h : w.heap[g]? = some o) (hb : Below B w w1) (hg : g < B) : w1.heap[g]? = some o := (hb.block g hg).trans h
theorem blk_set {w : World} {g : Nat} {t : TypeId} {cs : Array Value} {f : Nat × Nat} (h : w.heap[g]? = some (.cells cs t f)) (i : Nat) (u : Value) : (w.setCell ⟨g, i, none⟩ u).heap[g]? = some (.cells (cs.setIfInBounds i u) t f) := by simp [World.setCell, Array.getElem?_modify, h]
theorem blk_set2 {w : World} {g : Nat} {t : TypeId} {f : Nat × Nat} {a0 a1 : Value} (h : w.heap[g]? = some (.cells #[a0, a1] t f)) (u0 u1 : Value) : ((w.setCell ⟨g, 0, none⟩ u0).setCell ⟨g, 1, none⟩ u1).heap[g]? = some (.cells #[u0, u1] t f) := by
  have := (blk_set (blk_set h 0 u0) 1 u1)
  simpa using this
theorem blk_set3 {w : World} {g : Nat} {t : TypeId} {f : Nat × Nat} {a0 a1 a2 : Value} (h : w.heap[g]? = some (.cells #[a0, a1, a2] t f)) (u0 u1 u2 : Value) : (((w.setCell ⟨g, 0, none⟩ u0).setCell ⟨g, 1, none⟩ u1).setCell ⟨g, 2, none⟩ u2).heap[g]? = some (.cells #[u0, u1, u2] t f) := by
  have := (blk_set (blk_set (blk_set h 0 u0) 1 u1) 2 u2)
  simpa using this
theorem blk_set5 {w : World} {g : Nat} {t : TypeId} {f : Nat × Nat} {a0 a1 a2 a3 a4 : Value} (h : w.heap[g]? = some (.cells #[a0, a1, a2, a3, a4] t f)) (u0 u1 u2 u3 u4 : Value) : (((((w.setCell ⟨g, 0, none⟩ u0).setCell ⟨g, 1, none⟩ u1).setCell ⟨g, 2, none⟩ u2).setCell ⟨g, 3, none⟩ u3).setCell ⟨g, 4, none⟩ u4).heap[g]? = some (.cells #[u0, u1, u2, u3, u4] t f) := by
  have := (blk_set (blk_set (blk_set (blk_set (blk_set h 0 u0) 1 u1) 2 u2) 3 u3) 4 u4)
  simpa using this
theorem blk_set9 {w : World} {g : Nat} {t : TypeId} {f : Nat × Nat} {a0 a1 a2 a3 a4 a5 a6 a7 a8 : Value} (h : w.heap[g]? = some (.cells #[a0, a1, a2, a3, a4, a5, a6, a7, a8] t f)) (u0 u1 u2 u3 u4 u5 u6 u7 u8 : Value) : (((((((((w.setCell ⟨g, 0, none⟩ u0).setCell ⟨g, 1, none⟩ u1).setCell ⟨g, 2, none⟩ u2).setCell ⟨g, 3, none⟩ u3).setCell ⟨g, 4, none⟩ u4).setCell ⟨g, 5, none⟩ u5).setCell ⟨g, 6, none⟩ u6).setCell ⟨g, 7, none⟩ u7).setCell ⟨g, 8, none⟩ u8).heap[g]? = some (.cells #[u0, u1, u2, u3, u4, u5, u6, u7, u8] t f) := by
  have := (blk_set (blk_set (blk_set (blk_set (blk_set (blk_set (blk_set (blk_set (blk_set h 0 u0) 1 u1) 2 u2) 3 u3) 4 u4) 5 u5) 6 u6) 7 u7) 8 u8)
  simpa using this
theorem blk_far {w : World} {g : Nat} {o : Obj} (h : w.heap[g]? = some o) {p : Addr} (hp : g ≠ p.block) (u : Value) : (w.setCell p u).heap[g]? = some o := (Below.heap_setCell w p u g hp).trans h
theorem blk_grown {w w1 : World} {g : Nat} {o : Obj} {row : Option Nat} (h : w.heap[g]? = some o) (hg : w.grownBy w1 row) (hne : some g ≠ row) : w1.heap[g]? = some o := (hg.block g (blk_lt h) hne).trans h

/-! ### A row that the call owns -/
def Own {α : Type} (cs : α → List Value) (k : Nat) (e : TypeId) (base : Nat) (w : World) (v : Value) (xs : List α) : Prop := w.ownsRow base e k v xs.length (xs.flatMap cs)
section
variable {α : Type} {cs : α → List Value} {k e base : Nat} {w w' : World} {v : Value} {xs : List α}
theorem flatMap_get (hk : ∀ x, (cs x).length = k) : ∀ (xs : List α) (i j : Nat) (x : α) (u : Value), xs[i]? = some x → (cs x)[j]? = some u → (xs.flatMap cs)[i * k + j]? = some u
  | [], i, j, x, u, h, _ => by simp at h
  | y :: ys, 0, j, x, u, h, hu => by
    simp at h; subst h
    have hj : j < (cs y).length := (List.getElem?_eq_some_iff.1 hu).1
    simp only [List.flatMap_cons, Nat.zero_mul, Nat.zero_add]
    rw [List.getElem?_append_left hj]; exact hu
  | y :: ys, i + 1, j, x, u, h, hu => by
    simp only [List.flatMap_cons]
    rw [List.getElem?_append_right (by rw [hk]; rw [Nat.add_mul]; omega)]
    have e : (i + 1) * k + j - (cs y).length = i * k + j := by rw [hk, Nat.add_mul]; omega
    rw [e]
    exact flatMap_get hk ys i j x u (by simpa using h) hu
theorem Own.sl (hk : ∀ x, (cs x).length = k) (h : Own cs k e base w v xs) (hl : xs.length ≤ 17592186044416) : Sl cs k w v xs := by
  unfold Own at h
  rcases h.2 with ⟨rfl, h0⟩ | ⟨g, cap, cur, rfl, hb, hg, hn, hc, hs, ht⟩
  · obtain rfl := List.length_eq_zero_iff.1 h0
    exact Sl.nil w
  · refine ⟨_, _, rfl, hn, hl, fun i x hx => ⟨g, 0, rfl, fun j u hu => ?_⟩⟩
    rw [Nat.zero_add, blk_cell hg, ← Array.getElem?_toList]
    have hq := flatMap_get hk xs i j x u hx hu
    rw [← ht, List.getElem?_take] at hq
    split at hq
    · exact hq
    · cases hq
theorem Own.nil (w : World) (base : Nat) : Own cs k e base w (.slice none 0 0) [] := ⟨by simp, .inl ⟨rfl, rfl⟩⟩
theorem Own.kept (h : Own cs k e base w v xs) {row : Option Nat} (hg : w.grownBy w' row) (hne : v.ownBlock = none ∨ v.ownBlock ≠ row) : Own cs k e base w' v xs := World.ownsRow.kept h hg hne
theorem Own.below (h : Own cs k e base w v xs) (hb : Below w.heap.size w w') : Own cs k e base w' v xs :=
  h.kept (row := none) ⟨hb.os, hb.tape, hb.output, hb.size, fun i hi _ => hb.block i hi⟩ (by cases v.ownBlock <;> simp)
theorem Own.alloc (h : Own cs k e base w v xs) (o : Obj) : Own cs k e base (w.alloc o) v xs := World.ownsRow.alloc h o
theorem Own.drewN (h : Own cs k e base w v xs) (n : Nat) : Own cs k e base (w.drewN n) v xs := h
theorem Own.slice (h : Own cs k e base w v xs) : ∃ A c, v = .slice A xs.length c := by
  rcases h.2 with ⟨rfl, h0⟩ | ⟨g, cap, cur, rfl, _⟩
  · exact ⟨none, 0, by rw [h0]⟩
  · exact ⟨_, cap, rfl⟩
theorem Own.lt (h : Own cs k e base w v xs) : ∀ b, v.ownBlock = some b → base ≤ b ∧ b < w.heap.size := World.ownsRow.lt h
/-- A cell of another block is stored. -/
theorem Own.set (h : Own cs k e base w v xs) {p : Addr} (hp : v.ownBlock ≠ some p.block) (u : Value) : Own cs k e base (w.setCell p u) v xs :=
  h.kept (row := some p.block) ⟨rfl, rfl, rfl, by simp [World.setCell], fun i _ hne => Below.heap_setCell _ _ _ _ (fun e => hne (by rw [e]))⟩ (.inr hp)
theorem Own.mono {base' : Nat} (h : Own cs k e base w v xs) (hb : base' ≤ base) : Own cs k e base' w v xs :=
  ⟨h.1, h.2.imp id fun ⟨g, cap, cur, e, hg, r⟩ => ⟨g, cap, cur, e, Nat.le_trans hb hg, r⟩⟩
end
/-- 'v = append(v, x)': one element more. -/
theorem wp_push {α : Type} {cs : α → List Value} {k e base : Nat} {P : Program} {w : World} {ops : Array Oper} {rest : List Oper} {o : Oper} {a : Act} {Q : Exit → Act → World → Prop} (hgd : o.guard = none) (s x : Operand) (t : TypeId)
    (ho : o.op = .call { callee := .builtin .append, args := #[s, x], argTypes := #[t, t] }) (z : Value) (bytes : Nat) (ht : P.underlying t = some (.slice e))
    (hinfo : (P.info? e).map (fun i => (i.zero, i.size, i.bytes)) = some (some z, k, bytes)) (hzs : z.cells.size = k) (hk0 : 0 < k)
    (v : Value) (xs : List α) (y : α) (hs : a.eval s = v) (hown : Own cs k e base w v xs) (g m c : Nat) (hx : a.eval x = .slice (some ⟨g, 0, none⟩) m c) (hm : m = 1)
    (f : Nat × Nat) (e' : TypeId) (hblk : w.heap[g]? = some (.cells (cs y).toArray e' f)) (hy : (cs y).length = k) (h1 : ∀ u ∈ cs y, u.oneCell' = true)
    (hlen : (xs.length + 1) * bytes ≤ 140737488355328) (hb0 : 0 < bytes) (hbase : base ≤ w.heap.size)
    (h : ∀ v' w', Own cs k e base w' v' (xs ++ [y]) → w.grownBy w' v.ownBlock → wpList P ops Q rest (a.put o.dst v') w') : wpList P ops Q (o :: rest) a w := by
  subst hm
  obtain ⟨i0, hi, hz0, hz1, hz2⟩ := info_parts hinfo
  have hl1 : xs.length + 1 ≤ maxLen := by
    have : xs.length + 1 ≤ (xs.length + 1) * bytes := Nat.le_mul_of_pos_right _ hb0
    unfold maxLen; omega
  refine wpList_append_own _ hgd s x t ho base e i0 z k bytes ht hi hz0 hz1 hz2 hzs hk0 v xs.length (xs.flatMap cs) hs hown ⟨g, 0, none⟩ 1 c (cs y) hx (by rw [hy, Nat.one_mul]) ?_ h1 hl1 hlen hbase ?_
  · intro j u hu
    rw [show (⟨g, 0, none⟩ : Addr).add j = ⟨g, j, none⟩ from by unfold Addr.add; split <;> simp_all, blk_cell hblk]
    simpa using hu
  · intro v' w' ho' hg _
    exact h v' w' (by unfold Own; rw [List.length_append, List.flatMap_append]; simpa using ho') hg
/-- The world behind an append to a row of one's own. -/
theorem bl_push {B base k e : Nat} {α : Type} {cs : α → List Value} {w w1 w2 : World} {v : Value} {xs : List α} (h : Below B w w1) (ho : Own cs k e base w1 v xs) (hg : w1.grownBy w2 v.ownBlock) (hB : B ≤ base) (hs : B ≤ w1.heap.size) : Below B w w2 :=
  h.grown hg hs fun b hb => Nat.le_trans hB (ho.lt b hb).1
theorem info3 : (Tryz.prog.info? 3).map (fun i => (i.zero, i.size, i.bytes)) = some (some (.int .i64 0), 1, 8) := by kernel_rfl
theorem info9 : (Tryz.prog.info? 9).map (fun i => (i.zero, i.size, i.bytes)) = some (some (.string ByteArray.empty), 1, 16) := by kernel_rfl
theorem info34 : (Tryz.prog.info? 34).map (fun i => (i.zero, i.size, i.bytes)) = some (some (.slice none 0 0), 1, 24) := by kernel_rfl
theorem info48 : (Tryz.prog.info? 48).map (fun i => (i.zero, i.size, i.bytes)) = some (some (.agg #[iv 0, iv 0]), 2, 16) := by kernel_rfl
theorem info53 : (Tryz.prog.info? 53).map (fun i => (i.zero, i.size, i.bytes)) = some (some (.agg #[iv 0, iv 0, iv 0, iv 0, iv 0, iv 0, iv 0, iv 0, iv 0]), 9, 72) := by kernel_rfl
theorem info86 : (Tryz.prog.info? 86).map (fun i => (i.zero, i.size, i.bytes)) = some (some (.agg #[iv 0, iv 0, iv 0]), 3, 24) := by kernel_rfl
theorem info115 : (Tryz.prog.info? 115).map (fun i => (i.zero, i.size, i.bytes)) = some (some (.agg #[.int .u64 0, .int .u64 0, .int .u64 0, .int .u64 0, .int .u64 0]), 5, 40) := by kernel_rfl
theorem info138 : (Tryz.prog.info? 138).map (fun i => (i.zero, i.size, i.bytes)) = some (some (.agg #[iv 0, iv 0]), 2, 16) := by kernel_rfl
end Go.Proofs.YtjekioabkmijbaaGreatDoor
