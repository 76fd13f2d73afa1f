/- Reverse of a row of places. -/
import Derived.Test.YtjekioabkmijbaaGreatDoorZ20
import Derived.BigRegion
import Derived.Test.YtjekioabkmijbaaGreatDoorZ13
set_option linter.unusedVariables false
set_option linter.unusedSimpArgs false
namespace Go.Proofs.YtjekioabkmijbaaGreatDoor
open Go.RowKit
theorem flat_set : ∀ (xs : List DPlace) (i : Nat) (y : DPlace), i < xs.length → (xs.set i y).flatMap DPlace.cs = ((xs.flatMap DPlace.cs).set (i * 2) (iv y.c)).set (i * 2 + 1) (iv y.b)
  | [], i, y, h => by simp at h
  | x :: xs, 0, y, _ => by simp [DPlace.cs]
  | x :: xs, i + 1, y, h => by
    have ih := flat_set xs i y (by simpa using h)
    simp only [List.set_cons_succ, List.flatMap_cons, ih]
    rw [show (i + 1) * 2 = i * 2 + 1 + 1 by omega]
    simp [DPlace.cs]
theorem Own.put {base g n c : Nat} {w : World} {xs : List DPlace} (h : Own DPlace.cs 2 48 base w (.slice (some ⟨g, 0, none⟩) n c) xs) (i : Nat) (hi : i < xs.length) (y : DPlace) :
    Own DPlace.cs 2 48 base ((w.setCell ⟨g, i * 2, none⟩ (iv y.c)).setCell ⟨g, i * 2 + 1, none⟩ (iv y.b)) (.slice (some ⟨g, 0, none⟩) n c) (xs.set i y) := by
  refine ⟨by have := h.1; rw [List.length_set]; rw [flat_set xs i y hi, List.length_set, List.length_set]; exact this, ?_⟩
  rcases h.2 with ⟨h1, h2⟩ | ⟨g', cap, cur, e, hb, hg, hn, hc, hs, ht⟩
  · simp at h1
  · cases e
    refine .inr ⟨g, c, (cur.setIfInBounds (i * 2) (iv y.c)).setIfInBounds (i * 2 + 1) (iv y.b), by rw [List.length_set], hb, blk_set (blk_set hg _ _) _ _, by rw [List.length_set]; exact hn, hc, by simpa using hs, ?_⟩
    rw [List.length_set, flat_set xs i y hi, ← ht]
    simp [List.take_set]
theorem own_cells {base g n c : Nat} {w : World} {xs : List DPlace} (h : Own DPlace.cs 2 48 base w (.slice (some ⟨g, 0, none⟩) n c) xs) (i : Nat) (x : DPlace) (hi : xs[i]? = some x) :
    w.cell? ⟨g, i * 2, none⟩ = some (iv x.c) ∧ w.cell? ⟨g, i * 2 + 1, none⟩ = some (iv x.b) ∧ (∀ j, w.frozen? ⟨g, j, none⟩ = false) ∧ g < w.heap.size := by
  rcases h.2 with ⟨h1, h2⟩ | ⟨g', cap, cur, e, hb, hg, hn, hc, hs, ht⟩
  · simp at h1
  · cases e
    have q := fun j u hu => flatMap_get (cs := DPlace.cs) (k := 2) (fun _ => rfl) xs i j x u hi hu
    have hlen : ∀ j u, (xs.flatMap DPlace.cs)[j]? = some u → w.cell? ⟨g, j, none⟩ = some u := by
      intro j u hu
      rw [blk_cell hg, ← Array.getElem?_toList]
      rw [← ht, List.getElem?_take] at hu
      split at hu
      · exact hu
      · cases hu
    exact ⟨hlen _ _ (by have := q 0 _ rfl; simpa using this), hlen _ _ (q 1 _ rfl), fun j => blk_frozen hg j, blk_lt hg⟩
theorem grown_two {w V : World} {g i j : Nat} {u u' : Value} (h : w.grownBy V (some g)) : w.grownBy ((V.setCell ⟨g, i, none⟩ u).setCell ⟨g, j, none⟩ u') (some g) :=
  ⟨h.os, h.tape, h.output, by have := h.size; simpa [World.setCell] using this, fun k hk hne => (Below.heap_setCell _ _ _ _ (fun e => hne (by rw [e]))).trans ((Below.heap_setCell _ _ _ _ (fun e => hne (by rw [e]))).trans (h.block k hk hne))⟩
/-- The first k and the last k elements have changed places. -/
def RevTo (l L : List DPlace) (k : Nat) : Prop := L.length = l.length ∧ ∀ j, j < l.length → L[j]? = if j < k ∨ l.length ≤ j + k then l[l.length - 1 - j]? else l[j]?
theorem RevTo.start (l : List DPlace) : RevTo l l 0 := ⟨rfl, fun j hj => by rw [if_neg (by omega)]⟩
theorem RevTo.next {l L : List DPlace} {k : Nat} {a b : DPlace} (h : RevTo l L k) (hk : k < l.length - 1 - k) (ha : L[k]? = some a) (hb : L[l.length - 1 - k]? = some b) : RevTo l ((L.set k b).set (l.length - 1 - k) a) (k + 1) := by
  have ha' := h.2 k (by omega)
  have hb' := h.2 (l.length - 1 - k) (by omega)
  rw [if_neg (by omega), ha] at ha'
  rw [if_neg (by omega), hb] at hb'
  refine ⟨by simp [h.1], fun j hj => ?_⟩
  rw [List.getElem?_set, List.getElem?_set]
  have hl := h.1
  by_cases h1 : l.length - 1 - k = j
  · rw [if_pos h1, if_pos (by simp [hl]; omega), if_pos (by omega), ← h1, show l.length - 1 - (l.length - 1 - k) = k by omega]
    exact ha'
  · rw [if_neg h1]
    by_cases h2 : k = j
    · rw [if_pos h2, if_pos (by omega), if_pos (by omega), ← h2]; exact hb'
    · rw [if_neg h2, h.2 j hj]
      by_cases h3 : j < k ∨ l.length ≤ j + k
      · rw [if_pos h3, if_pos (by omega)]
      · rw [if_neg h3, if_neg (by omega)]
theorem RevTo.done {l L : List DPlace} {k : Nat} (h : RevTo l L k) (hk : l.length ≤ 2 * k + 1) : L = l.reverse := by
  apply List.ext_getElem?
  intro j
  by_cases hj : j < l.length
  · rw [h.2 j hj, List.getElem?_reverse hj]
    by_cases h3 : j < k ∨ l.length ≤ j + k
    · rw [if_pos h3]
    · rw [if_neg h3, show l.length - 1 - j = j by omega]
  · rw [List.getElem?_eq_none (by have := h.1; omega), List.getElem?_eq_none (by simp; omega)]
set_option maxHeartbeats 2000000 in
set_option maxRecDepth 20000 in
theorem reverse_calls (ps : List DPlace) (v : Value) (base : Nat) (w : World) (h : Own DPlace.cs 2 48 base w v ps) (hl : ps.length ≤ 1000000) :
    Calls Tryz.prog 141 #[v] w fun e w' => e = .returned (.tuple #[]) ∧ Own DPlace.cs 2 48 base w' v ps.reverse ∧ w.grownBy w' v.ownBlock := by
  obtain ⟨A, c, rfl⟩ := h.slice
  have H := Lib.hid h
  obtain ⟨row, hrow⟩ : ∃ r, r = (Value.slice A ps.length c).ownBlock := ⟨_, rfl⟩
  rw [← hrow]
  have HR := Lib.hid hrow
  clear h hrow
  have e0 : IntKind.i64.wrap ((ps.length : Int) - 1) = (ps.length : Int) - 1 := IntWalk.i64_in _ ⟨by omega, by omega⟩
  go_enter Tryz.func141, Tryz.ntmps141
  go_wp2
  go_loopg [2, 3] ps.length (fun n i j wr => ∃ k : Nat, 2 * k ≤ ps.length + 1 ∧ n = ps.length - k ∧ i = .int .i64 k ∧ j = .int .i64 ((ps.length : Int) - 1 - k) ∧ (∃ L, Hid (Own DPlace.cs 2 48 base wr (.slice A ps.length c) L ∧ RevTo ps L k)) ∧ Hid (w.grownBy wr row))
  case atStart => exact ⟨0, by omega, by omega, rfl, by simp, ⟨ps, H.out, RevTo.start ps⟩, ⟨rfl, rfl, rfl, Nat.le_refl _, fun _ _ _ => rfl⟩⟩
  case round =>
    obtain ⟨k, hk, hn, rfl, rfl, ⟨L, HL⟩, HG⟩ := hrel
    by_cases hlt : 2 * k + 1 < ps.length
    · obtain ⟨hO, hRev⟩ := HL.out
      have hLl := hRev.1
      obtain ⟨j, hj⟩ : ∃ j, j = ps.length - 1 - k := ⟨_, rfl⟩
      have ha : L[k]? = some L[k] := List.getElem?_eq_getElem (by omega)
      have hb : L[j]? = some (L[j]'(by omega)) := List.getElem?_eq_getElem (by omega)
      obtain ⟨a, hae⟩ : ∃ a, a = L[k] := ⟨_, rfl⟩
      obtain ⟨b, hbe⟩ : ∃ b, b = L[j]'(by omega) := ⟨_, rfl⟩
      rw [← hae] at ha
      rw [← hbe] at hb
      have hN := Lib.hid (hRev.next (by omega) ha (hj ▸ hb))
      have hge : ∃ g, A = some ⟨g, 0, none⟩ := by
        rcases hO.2 with ⟨h1, h2⟩ | ⟨g', cap, cur, e, _⟩
        · simp at h1; omega
        · injection e with e1 e2 e3; exact ⟨g', e1⟩
      obtain ⟨g, rfl⟩ := hge
      obtain ⟨a0, a1, hfz, hgl⟩ := own_cells hO k a ha
      obtain ⟨b0, b1, _, _⟩ := own_cells hO j b hb
      have hne : ¬ k = j := by omega
      have hne2 : ¬ j = k := by omega
      have z1 : ¬ k * 2 = j * 2 := by omega
      have z2 : ¬ k * 2 = j * 2 + 1 := by omega
      have z3 : ¬ k * 2 + 1 = j * 2 := by omega
      have z4 : ¬ j * 2 = k * 2 + 1 := by omega
      have ej : (ps.length : Int) - 1 - (k : Int) = (j : Int) := by omega
      have HJ := Lib.hid hj
      have HO := Lib.hid hO
      rw [ej]
      have kk : (k : Int) < (j : Int) := by omega
      have kl : (k : Int) < (ps.length : Int) := by omega
      have jl : (j : Int) < (ps.length : Int) := by omega
      have jb : (j : Int) ≤ 1000000 := by omega
      have HLk : Hid (k < L.length ∧ j < L.length) := ⟨by omega, by omega⟩
      clear hj hae hbe ha hb hO hRev HL ej hLl
      go_wp2_with fail
      go_region
      go_wp2
      go_roundg (ps.length - (k + 1))
      case measure => omega
      case rel =>
        have hk2 := HLk.out
        have hO2 := ((show Own DPlace.cs 2 48 base wr.drew _ L from HO.out).put k hk2.1 b).put j (by rw [List.length_set]; exact hk2.2) a
        have hN2 := hN.out
        rw [← HJ.out] at hN2
        have hrow := HR.out
        simp [Value.ownBlock] at hrow
        refine ⟨k + 1, by omega, rfl, by go_num, ?_, ⟨_, hO2, hN2⟩, ?_⟩
        · have := HJ.out; congr 1; omega
        · have hg := HG.out
          rw [hrow] at hg ⊢
          exact grown_two (grown_two (w := w) (V := wr.drew) ⟨hg.os, hg.tape, hg.output, hg.size, hg.block⟩)
    · obtain ⟨hO, hRev⟩ := HL.out
      obtain rfl := hRev.done (by omega)
      have kk : ¬ (k : Int) < (ps.length : Int) - 1 - (k : Int) := by omega
      have HO := Lib.hid hO
      clear HL hO hRev
      go_wp2
      go_end0
      exact ⟨rfl, HO.out, HG.out⟩
end Go.Proofs.YtjekioabkmijbaaGreatDoor
/- Ordered lists of places: what the reference's put and all make of them. -/
set_option linter.unusedVariables false
set_option linter.unusedSimpArgs false
namespace Go.Proofs.YtjekioabkmijbaaGreatDoor
def ltP (p q : DPlace) : Bool := decide (p.c < q.c) || (p.c == q.c && decide (p.b < q.b))
theorem ltP_iff {p q : DPlace} : ltP p q = true ↔ p.c < q.c ∨ p.c = q.c ∧ p.b < q.b := by simp [ltP]
/-- One round of put: what was gathered, and whether p was put already. -/
def putStep (p : DPlace) (a : List DPlace × Bool) (q : DPlace) : List DPlace × Bool := if !a.2 && ltP p q then (a.1 ++ [p] ++ [q], true) else (a.1 ++ [q], a.2)
def putTo (p : DPlace) (l : List DPlace) : List DPlace × Bool := l.foldl (putStep p) ([], false)
theorem putTo_snoc (p : DPlace) (l : List DPlace) (q : DPlace) : putTo p (l ++ [q]) = putStep p (putTo p l) q := by simp [putTo]
def putL (l : List DPlace) (p : DPlace) : List DPlace := if l.contains p then l else if (putTo p l).2 then (putTo p l).1 else (putTo p l).1 ++ [p]
def allL (l more : List DPlace) : List DPlace := more.foldl putL l
theorem upTo_same {m m' : Nat} (k : Nat) (h : ∀ n, n < k → m.testBit n = m'.testBit n) : upTo m k = upTo m' k := by
  unfold upTo; congr 1
  exact List.filter_congr fun n hn => h n (List.mem_range.1 hn)
theorem placesOf_same {m m' : Nat} (h : ∀ n, n < 320 → m.testBit n = m'.testBit n) : placesOf m = placesOf m' := upTo_same 320 h
theorem placesOf_up (m : Nat) : placesOf m = upTo m 320 := rfl
theorem lt_placed {p : DPlace} (h : okP p) {k : Nat} (hk : num p < k) : ltP p (placed k) = true := by
  obtain ⟨h1, h2, h3, h4⟩ := h
  unfold num at hk
  rw [ltP_iff]
  simp only [placed]
  omega
theorem not_lt_placed {p : DPlace} (h : okP p) {k : Nat} (hk : k ≤ num p) : ltP p (placed k) = false := by
  obtain ⟨h1, h2, h3, h4⟩ := h
  unfold num at hk
  rw [Bool.eq_false_iff, ne_eq, ltP_iff]
  simp only [placed]
  omega
theorem or_bit_test (m : Nat) (p : DPlace) (n : Nat) : (m ||| bit p).testBit n = (m.testBit n || decide (n = num p)) := by
  rw [Nat.testBit_or, bit_test]
theorem putTo_low {p : DPlace} (h : okP p) (m : Nat) : ∀ k, k ≤ num p + 1 → putTo p (upTo m k) = (upTo m k, false)
  | 0, _ => rfl
  | k + 1, hk => by
    cases hb : m.testBit k
    · rw [upTo_no hb]; exact putTo_low h m k (by omega)
    · rw [upTo_yes hb, putTo_snoc, putTo_low h m k (by omega)]
      simp [putStep, not_lt_placed h (show k ≤ num p by omega)]
theorem putTo_high {p : DPlace} (h : okP p) {m : Nat} (hm : m.testBit (num p) = false) : ∀ d,
    putTo p (upTo m (num p + 1 + d)) = (upTo (m ||| bit p) (num p + 1 + d), true) ∨
    (putTo p (upTo m (num p + 1 + d)) = (upTo m (num p + 1 + d), false) ∧ upTo (m ||| bit p) (num p + 1 + d) = upTo m (num p + 1 + d) ++ [p])
  | 0 => by
    right
    refine ⟨putTo_low h m _ (by omega), ?_⟩
    rw [Nat.add_zero, upTo_yes (by rw [or_bit_test]; simp), upTo_no hm, placed_num h, upTo_same (m' := m)]
    intro n hn
    rw [or_bit_test]
    have : n ≠ num p := by omega
    simp [this]
  | d + 1 => by
    rw [← Nat.add_assoc]
    have e : (m ||| bit p).testBit (num p + 1 + d) = m.testBit (num p + 1 + d) := by
      rw [or_bit_test]
      have : num p + 1 + d ≠ num p := by omega
      simp [this]
    cases hb : m.testBit (num p + 1 + d)
    · rw [upTo_no hb, upTo_no (e.trans hb)]; exact putTo_high h hm d
    · rw [upTo_yes hb, upTo_yes (e.trans hb), putTo_snoc]
      left
      rcases putTo_high h hm d with h1 | ⟨h1, h2⟩
      · rw [h1]; simp [putStep]
      · rw [h1, h2]; simp [putStep, lt_placed h (show num p < num p + 1 + d by omega)]
theorem contains_places {m : Nat} {p : DPlace} (h : okP p) : (placesOf m).contains p = m.testBit (num p) := by
  rw [Bool.eq_iff_iff, List.contains_iff_mem, mem_places]
  constructor
  · rintro ⟨n, hn, ht, rfl⟩
    have : num (placed n) = n := by unfold num placed; simp only; omega
    rw [this]; exact ht
  · intro ht; exact ⟨num p, num_lt h, ht, placed_num h⟩
theorem or_bit_same {m : Nat} {p : DPlace} (h : m.testBit (num p) = true) : m ||| bit p = m := by
  apply Nat.eq_of_testBit_eq
  intro n
  rw [or_bit_test]
  by_cases hn : n = num p
  · subst hn; simp [h]
  · simp [hn]
theorem putL_places {m : Nat} {p : DPlace} (h : okP p) : putL (placesOf m) p = placesOf (m ||| bit p) := by
  unfold putL
  rw [contains_places h]
  cases hb : m.testBit (num p)
  · have hl := num_lt h
    obtain ⟨d, hd⟩ : ∃ d, 320 = num p + 1 + d := ⟨320 - (num p + 1), by omega⟩
    rw [placesOf_up, placesOf_up, hd]
    rcases putTo_high h hb d with h1 | ⟨h1, h2⟩
    · rw [h1]; simp
    · rw [h1, h2]; simp
  · simp [or_bit_same hb]
def okL (l : List DPlace) : Prop := ∀ p ∈ l, okP p
theorem okP_placed {n : Nat} (h : n < 280) : okP (placed n) := by unfold okP placed; simp only; omega
theorem allL_places : ∀ (l : List DPlace) (m : Nat), okL l → allL (placesOf m) l = placesOf (l.foldl (fun a p => a ||| bit p) m)
  | [], _, _ => rfl
  | p :: l, m, h => by
    unfold allL
    rw [List.foldl_cons, putL_places (h p (by simp)), List.foldl_cons]
    exact allL_places l _ (fun q hq => h q (by simp [hq]))
theorem fold_bits : ∀ (l : List DPlace) (m n : Nat), (l.foldl (fun a p => a ||| bit p) m).testBit n = (m.testBit n || l.any fun p => decide (n = num p))
  | [], _, _ => by simp
  | p :: l, m, n => by
    rw [List.foldl_cons, fold_bits l, or_bit_test, List.any_cons, Bool.or_assoc]
theorem any_places {m n : Nat} (hn : n < 320) : ((placesOf m).any fun p => decide (n = num p)) = m.testBit n := by
  rw [Bool.eq_iff_iff, List.any_eq_true]
  constructor
  · rintro ⟨p, hp, he⟩
    rw [decide_eq_true_eq] at he
    obtain ⟨k, hk, ht, rfl⟩ := mem_places.1 hp
    have : num (placed k) = k := by unfold num placed; simp only; omega
    rw [he, this]; exact ht
  · intro ht
    refine ⟨placed n, mem_places.2 ⟨n, hn, ht, rfl⟩, ?_⟩
    rw [decide_eq_true_eq]
    unfold num placed; simp only; omega
theorem allL_or {m m' : Nat} (h : okL (placesOf m')) : allL (placesOf m) (placesOf m') = placesOf (m ||| m') := by
  rw [allL_places _ _ h]
  refine placesOf_same fun n hn => ?_
  rw [fold_bits, any_places hn, Nat.testBit_or]
theorem okL_of {s : DSea} {m : Nat} (hs : seaOk s = true) (h : okM s m) : okL (placesOf m) := fun p hp => okP_of hs (h p hp)
theorem places_zero : placesOf 0 = [] := by simp [placesOf]
theorem places_bit {p : DPlace} (h : okP p) : placesOf (bit p) = [p] := by
  have := putL_places (m := 0) h
  rw [Nat.zero_or, places_zero] at this
  rw [← this]; simp [putL, putTo]
end Go.Proofs.YtjekioabkmijbaaGreatDoor
/- Courses: plain. -/
set_option linter.unusedVariables false
set_option linter.unusedSimpArgs false
namespace Go.Proofs.YtjekioabkmijbaaGreatDoor
theorem fold_or_bit {α : Type} (g : α → Nat) : ∀ (l : List α) (m n : Nat), (l.foldl (fun acc p => acc ||| g p) m).testBit n = (m.testBit n || l.any fun p => (g p).testBit n)
  | [], m, n => by simp
  | p :: l, m, n => by rw [List.foldl_cons, fold_or_bit g l, Nat.testBit_or, List.any_cons, Bool.or_assoc]
theorem nextM_has (s : DSea) (ws : List DWind) (f : Int) (m : Nat) (h : Int) (q : DPlace) : hasM (nextM s ws f m h) q = (placesOf m).any fun p => hasM (movesM s ws f p h) q := by
  unfold hasM nextM
  rw [fold_or_bit]; simp
theorem hasM_or (m m' : Nat) (q : DPlace) : hasM (m ||| m') q = (hasM m q || hasM m' q) := by unfold hasM; rw [Nat.testBit_or]
theorem mem_has {m : Nat} {p : DPlace} (h : okP p) : p ∈ placesOf m ↔ hasM m p = true := by
  unfold hasM
  rw [← contains_places h, List.contains_iff_mem]
/-- Where a package can have come from in the hour before t. -/
def prevP (s : DSea) (ws : List DWind) (f : Int) (x : DLoss) (t : Int) (here : DPlace) : Option DPlace :=
  (placesOf (setAt s ws f x (t - 1 - x.hl).toNat)).find? fun p => hasM (movesM s ws f p (t - 1)) here
theorem prev_some {s : DSea} {ws : List DWind} {f : Int} {x : DLoss} {t : Int} {here : DPlace} (ht : x.hl < t) (hh : hasM (setAt s ws f x (t - x.hl).toNat) here = true) (hb : hasM (begunM x t) here = false) : (prevP s ws f x t here).isSome = true := by
  have e : (t - x.hl).toNat = (t - 1 - x.hl).toNat + 1 := by omega
  rw [e, setAt_succ, hasM_or] at hh
  have e2 : x.hl + ((t - 1 - x.hl).toNat : Int) = t - 1 := by omega
  rw [e2, show t - 1 + 1 = t by omega, hb, Bool.or_false, nextM_has] at hh
  unfold prevP
  rw [List.find?_isSome]
  simpa [List.any_eq_true] using hh
/-- What the course gathers: backwards, the hour t and the place here last. -/
structure Back (s : DSea) (ws : List DWind) (f : Int) (x : DLoss) (tgt : DPlace) (h t : Int) (here : DPlace) (acc : List DPlace) : Prop where
  low : x.hl ≤ t
  high : t ≤ h
  len : (acc.length : Int) = h - t + 1
  has : hasM (setAt s ws f x (t - x.hl).toNat) here = true
  ok : ∀ p ∈ acc, placeOk s p = true
  head : acc.head? = some tgt
  last : acc.getLast? = some here
  step : ∀ (i : Nat) (p q : DPlace), acc[i]? = some q → acc[i + 1]? = some p → hasM (movesM s ws f p (h - (i : Int) - 1)) q = true
theorem Back.start {s : DSea} {ws : List DWind} {f : Int} {x : DLoss} {tgt : DPlace} {h : Int} (hle : x.hl ≤ h) (hto : placeOk s tgt = true) (hh : hasM (reachM s ws f x h) tgt = true) : Back s ws f x tgt h h tgt [tgt] :=
  ⟨hle, Int.le_refl _, by simp, hh, by simpa using hto, rfl, rfl, fun i p q _ h2 => by simp at h2⟩
theorem Back.next {s : DSea} {ws : List DWind} {f : Int} {x : DLoss} {tgt : DPlace} {h t : Int} {here p : DPlace} {acc : List DPlace} (b : Back s ws f x tgt h t here acc) (hs : seaOk s = true) (hx : lossOk s x = true) (ht : x.hl < t) (hp : prevP s ws f x t here = some p) : Back s ws f x tgt h (t - 1) p (acc ++ [p]) := by
  have hm := List.mem_of_find?_eq_some hp
  have hq := List.find?_some hp
  have hok : placeOk s p = true := setAt_ok ws f hs hx _ p hm
  refine ⟨by omega, by have := b.high; omega, by have := b.len; simp; omega, ?_, ?_, ?_, by simp, ?_⟩
  · exact (mem_has (okP_of hs hok)).1 hm
  · intro q hq
    rcases List.mem_append.1 hq with hq | hq
    · exact b.ok q hq
    · simp at hq; subst hq; exact hok
  · have := b.head
    cases acc with
    | nil => simp at this
    | cons y r => simpa using this
  · intro i p' q' h1 h2
    by_cases hi : i + 1 < acc.length
    · rw [List.getElem?_append_left (by omega)] at h1
      rw [List.getElem?_append_left hi] at h2
      exact b.step i p' q' h1 h2
    · have hil : i + 1 = acc.length := by
        have := (List.getElem?_eq_some_iff.1 h2).1
        simp at this; omega
      rw [List.getElem?_append_left (by omega)] at h1
      rw [List.getElem?_append_right (by omega), hil] at h2
      simp at h2
      subst h2
      have hl := b.last
      rw [List.getLast?_eq_getElem?] at hl
      rw [show acc.length - 1 = i by omega, h1] at hl
      cases hl
      have hlen := b.len
      rw [show h - (i : Int) - 1 = t - 1 by omega]
      exact hq
/-- A course: where a package begins, from hour to hour, to a place at an hour. -/
def chainOk (s : DSea) (ws : List DWind) (f : Int) : Int → List DPlace → Bool
  | _, [] => true
  | _, [_] => true
  | t, p :: q :: r => hasM (movesM s ws f p t) q && chainOk s ws f (t + 1) (q :: r)
def courseOk (s : DSea) (ws : List DWind) (f : Int) (x : DLoss) (tgt : DPlace) (h cf : Int) (ps : List DPlace) : Bool :=
  decide (x.hl ≤ cf ∧ cf ≤ x.hh ∧ cf ≤ h ∧ (ps.length : Int) = h - cf + 1) && ps.all (placeOk s) && (ps.head?.any fun p => hasM (begunM x cf) p) && ps.getLast? == some tgt && chainOk s ws f cf ps
theorem chainOk_iff {s : DSea} {ws : List DWind} {f : Int} : ∀ (ps : List DPlace) (t : Int), chainOk s ws f t ps = true ↔ ∀ (i : Nat) (p q : DPlace), ps[i]? = some p → ps[i + 1]? = some q → hasM (movesM s ws f p (t + (i : Int))) q = true
  | [], t => by simp [chainOk]
  | [a], t => by simp [chainOk]
  | a :: b :: r, t => by
    unfold chainOk
    rw [Bool.and_eq_true, chainOk_iff (b :: r) (t + 1)]
    constructor
    · rintro ⟨h1, h2⟩ i p q hp hq
      cases i with
      | zero => simp at hp hq; subst hp hq; simpa using h1
      | succ i =>
        have := h2 i p q (by simpa using hp) (by simpa using hq)
        rw [show t + ((i + 1 : Nat) : Int) = t + 1 + (i : Int) by omega]
        exact this
    · intro hall
      refine ⟨by simpa using hall 0 a b rfl rfl, fun i p q hp hq => ?_⟩
      have := hall (i + 1) p q (by simpa using hp) (by simpa using hq)
      rw [show t + ((i + 1 : Nat) : Int) = t + 1 + (i : Int) by omega] at this
      exact this
theorem begun_hours {x : DLoss} {t : Int} {p : DPlace} (h : hasM (begunM x t) p = true) : x.hl ≤ t ∧ t ≤ x.hh := by
  unfold begunM at h
  split at h
  · assumption
  · simp [hasM] at h
theorem Back.course {s : DSea} {ws : List DWind} {f : Int} {x : DLoss} {tgt : DPlace} {h t : Int} {here : DPlace} {acc : List DPlace} (b : Back s ws f x tgt h t here acc) (hb : hasM (begunM x t) here = true) : courseOk s ws f x tgt h t acc.reverse = true := by
  have hh := begun_hours hb
  have hlen := b.len
  unfold courseOk
  simp only [Bool.and_eq_true, decide_eq_true_eq, List.all_eq_true, beq_iff_eq]
  refine ⟨⟨⟨⟨⟨hh.1, hh.2, b.high, by simpa using hlen⟩, fun p hp => b.ok p (by simpa using hp)⟩, ?_⟩, ?_⟩, ?_⟩
  · rw [List.head?_reverse, b.last]; simpa using hb
  · rw [List.getLast?_reverse]; exact b.head
  · rw [chainOk_iff]
    intro i p q hp hq
    have hi : i + 1 < acc.length := by have := (List.getElem?_eq_some_iff.1 hq).1; simpa using this
    rw [List.getElem?_reverse (by omega)] at hp hq
    have := b.step (acc.length - 1 - (i + 1)) p q hq (by rw [show acc.length - 1 - (i + 1) + 1 = acc.length - 1 - i by omega]; exact hp)
    rw [show h - ((acc.length - 1 - (i + 1) : Nat) : Int) - 1 = t + (i : Int) by omega] at this
    exact this
end Go.Proofs.YtjekioabkmijbaaGreatDoor
