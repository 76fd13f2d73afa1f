/- Has, in: a place in a list; a list in a list. -/
import Derived.Test.YtjekioabkmijbaaGreatDoorZ34
import Derived.Test.YtjekioabkmijbaaGreatDoorZ24
import Derived.Test.YtjekioabkmijbaaGreatDoorZ05
import Derived.Test.YtjekioabkmijbaaGreatDoorZ08
set_option linter.unusedVariables false
set_option linter.unusedSimpArgs false
namespace Go.Proofs.YtjekioabkmijbaaGreatDoor
open Go.RowKit
theorem has_take {xs : List DPlace} {p : DPlace} {k : Nat} (h : ∀ j y, j < k → xs[j]? = some y → y ≠ p) (hk : xs.length ≤ k) : xs.contains p = false := by
  rw [Bool.eq_false_iff]
  intro hc
  rw [List.contains_iff_mem] at hc
  obtain ⟨j, hj, e⟩ := List.mem_iff_getElem.1 hc
  exact h j _ (by omega) (List.getElem?_eq_getElem hj) e
set_option maxHeartbeats 2000000 in
set_option maxRecDepth 20000 in
theorem has46_calls (xs : List DPlace) (p : DPlace) (v : Value) (w : World) (h1 : Sl DPlace.cs 2 w v xs) :
    Calls Tryz.prog 46 #[v, placeV p] w fun e w' => e = .returned (.bool (xs.contains p)) ∧ Below w.heap.size w w' := by
  obtain ⟨A, c, rfl, hc, hl⟩ := h1.open_
  have H1 := Lib.hid h1
  clear h1
  go_enter Tryz.func46, Tryz.ntmps46
  go_wp2_with fail
  refine wp_abs (fun W hW => ?_)
  have g0 : W.heap[w.heap.size]? = some (.cells #[iv p.c, iv p.b] 48 (0, 0)) := by rw [hW]; exact blk_new _ _
  have hB : Below w.heap.size w W := by rw [hW]; exact bl_alloc (Below.refl _ _) _
  have HB0 := Lib.hid hB
  have G0 := Lib.hid g0
  have HS := Lib.hid (H1.out.below hB)
  clear hW g0 hB
  go_loopg [5] xs.length (fun n i wr => ∃ k : Nat, k ≤ xs.length ∧ n = xs.length - k ∧ i = .int .i64 k ∧ Hid (Below W.heap.size W wr) ∧ Hid (∀ j y, j < k → xs[j]? = some y → y ≠ p))
  case atStart => exact ⟨0, by omega, by omega, rfl, Below.refl _ _, fun j y hj => by omega⟩
  case round =>
    obtain ⟨k, hk, hn, rfl, HB, H0⟩ := hrel
    by_cases hlt : k < xs.length
    · have hx : xs[k]? = some xs[k] := List.getElem?_eq_getElem hlt
      obtain ⟨x, hxe⟩ : ∃ x, x = xs[k] := ⟨_, rfl⟩
      rw [← hxe] at hx
      clear hxe
      obtain ⟨b, o, rfl, c0, c1⟩ := (HS.out.below HB.out).place k _ hx
      have gp := blk_below G0.out HB.out
      have d0 := blk_cell gp 0
      have d1 := blk_cell gp 1
      simp only [List.getElem?_toArray, List.getElem?_cons_zero, List.getElem?_cons_succ] at d0 d1
      have lp := blk_lt gp
      have HX := Lib.hid hx
      have l1 : (k : Int) < (xs.length : Int) := by omega
      have he := eqPlace x.c x.b p.c p.b
      clear hx gp
      go_wp2_with fail
      go_quiet (fail)
      cases hxy : (x.c == p.c && x.b == p.b) with
      | true =>
        have HE : Hid (xs.contains p = true) := by
          unfold Hid
          rw [List.contains_iff_mem]
          simp only [Bool.and_eq_true, beq_iff_eq] at hxy
          have : x = p := by obtain ⟨x1, x2⟩ := x; obtain ⟨p1, p2⟩ := p; simp_all
          exact this ▸ List.mem_of_getElem? HX.out
        go_wp2_with fail
        refine bodyPost_ret (v := .bool (xs.contains p)) (by rw [HE.out]; simp [results, Tryz.results46, go_sem]) rfl ⟨rfl, ?_⟩
        exact bl_step HB0.out (bl_drewN HB.out _)
      | false =>
        go_wp2_with fail
        go_roundg (xs.length - (k + 1))
        case measure => omega
        case rel => exact ⟨k + 1, by omega, rfl, by go_num, (bl_drewN HB.out _), fun j y hj hy => by
          rcases Nat.lt_or_ge j k with h | h
          · exact H0.out j y h hy
          · obtain rfl : j = k := by omega
            have := HX.out
            rw [hy] at this
            cases this
            rintro rfl
            simp at hxy⟩
    · have HE : Hid (xs.contains p = false) := has_take H0.out (by omega)
      go_wp2_with fail
      refine bodyPost_ret (v := .bool (xs.contains p)) (by rw [HE.out]; simp [results, Tryz.results46, go_sem]) rfl ⟨rfl, ?_⟩
      exact bl_step HB0.out HB.out
def inL (xs ys : List DPlace) : Bool := xs.all fun p => ys.contains p
set_option maxHeartbeats 2000000 in
set_option maxRecDepth 20000 in
theorem in45_calls (xs ys : List DPlace) (v u : Value) (w : World) (h1 : Sl DPlace.cs 2 w v xs) (h2 : Sl DPlace.cs 2 w u ys) :
    Calls Tryz.prog 45 #[v, u] w fun e w' => e = .returned (.bool (inL xs ys)) ∧ Below w.heap.size w w' := by
  obtain ⟨A, c, rfl, hc, hl⟩ := h1.open_
  obtain ⟨B, d, rfl, hd, hm⟩ := h2.open_
  have H1 := Lib.hid h1
  have H2 := Lib.hid h2
  clear h1 h2
  go_enter Tryz.func45, Tryz.ntmps45
  go_wp2_with fail
  go_loopg [5] xs.length (fun n i wr => ∃ k : Nat, k ≤ xs.length ∧ n = xs.length - k ∧ i = .int .i64 k ∧ Hid (Below w.heap.size w wr) ∧ Hid (∀ j y, j < k → xs[j]? = some y → ys.contains y = true))
  case atStart => exact ⟨0, by omega, by omega, rfl, Below.refl _ _, fun j y hj => by omega⟩
  case round =>
    obtain ⟨k, hk, hn, rfl, HB, H0⟩ := hrel
    by_cases hlt : k < xs.length
    · have hx : xs[k]? = some xs[k] := List.getElem?_eq_getElem hlt
      obtain ⟨x, hxe⟩ : ∃ x, x = xs[k] := ⟨_, rfl⟩
      rw [← hxe] at hx
      clear hxe
      obtain ⟨b, o, rfl, c0, c1⟩ := (H1.out.below HB.out).place k _ hx
      have HX := Lib.hid hx
      have l1 : (k : Int) < (xs.length : Int) := by omega
      have HC := Lib.hid (has46_calls ys x _ wr (H2.out.below HB.out))
      clear hx
      cases hin : ys.contains x with
      | true =>
        rw [hin] at HC
        go_wp2_with fail
        refine HC.out.mono ?_
        rintro e w2 ⟨rfl, hb2⟩
        have HB2 := Lib.hid (bl_step HB.out hb2)
        clear hb2 c0 c1
        go_wp2_with fail
        go_roundg (xs.length - (k + 1))
        case measure => omega
        case rel => exact ⟨k + 1, by omega, rfl, by go_num, HB2.out, fun j y hj hy => by
          rcases Nat.lt_or_ge j k with h | h
          · exact H0.out j y h hy
          · obtain rfl : j = k := by omega
            have := HX.out
            rw [hy] at this
            cases this
            exact hin⟩
      | false =>
        have HE : Hid (inL xs ys = false) := by
          unfold Hid inL
          rw [Bool.eq_false_iff]; intro h; rw [List.all_eq_true] at h
          have := h x (List.mem_of_getElem? HX.out)
          rw [hin] at this; cases this
        rw [hin] at HC
        go_wp2_with fail
        refine HC.out.mono ?_
        rintro e w2 ⟨rfl, hb2⟩
        have HB2 := Lib.hid (bl_step HB.out hb2)
        clear hb2 c0 c1
        go_wp2_with fail
        refine bodyPost_ret (v := .bool (inL xs ys)) (by rw [HE.out]; simp [results, Tryz.results45, go_sem]) rfl ⟨rfl, HB2.out⟩
    · have HE : Hid (inL xs ys = true) := by
        unfold Hid inL
        rw [List.all_eq_true]
        intro y hy
        obtain ⟨j, hj, rfl⟩ := List.mem_iff_getElem.1 hy
        exact H0.out j _ (by omega) (List.getElem?_eq_getElem hj)
      go_wp2_with fail
      refine bodyPost_ret (v := .bool (inL xs ys)) (by rw [HE.out]; simp [results, Tryz.results45, go_sem]) rfl ⟨rfl, HB.out⟩
end Go.Proofs.YtjekioabkmijbaaGreatDoor
/- Plain: sets of places, bit by bit; what the reference makes of them. -/
set_option linter.unusedVariables false
set_option linter.unusedSimpArgs false
namespace Go.Proofs.YtjekioabkmijbaaGreatDoor
theorem or_test {α : Type} (g : α → Nat) (n : Nat) : ∀ (l : List α) (a : Nat), (l.foldl (fun m p => m ||| g p) a).testBit n = (a.testBit n || l.any fun p => (g p).testBit n)
  | [], a => by simp
  | p :: r, a => by rw [List.foldl_cons, or_test g n r, Nat.testBit_or, List.any_cons, Bool.or_assoc]
theorem or_from {α : Type} (g : α → Nat) (l : List α) (a : Nat) : l.foldl (fun m p => m ||| g p) a = l.foldl (fun m p => m ||| g p) 0 ||| a := by
  apply Nat.eq_of_testBit_eq
  intro n
  rw [Nat.testBit_or, or_test, or_test, Nat.zero_testBit, Bool.false_or, Bool.or_comm]
theorem or_or {α β : Type} (g : α → β → Nat) (n : Nat) (r : List β) : ∀ (l : List α) (a : Nat), (l.foldl (fun m p => r.foldl (fun m q => m ||| g p q) m) a).testBit n = (a.testBit n || l.any fun p => r.any fun q => (g p q).testBit n)
  | [], a => by simp
  | p :: l, a => by rw [List.foldl_cons, or_or g n r l, or_test (g p) n r, List.any_cons, Bool.or_assoc]
theorem num_placed (n : Nat) : num (placed n) = n := by unfold num placed; simp only; omega
theorem mem_bit {m : Nat} {p : DPlace} (h : okP p) : p ∈ placesOf m ↔ m.testBit (num p) = true := by
  rw [← contains_places h, List.contains_iff_mem]
theorem mem_bit' {m : Nat} {p : DPlace} (h : p ∈ placesOf m) : m.testBit (num p) = true := by
  obtain ⟨n, hn, ht, rfl⟩ := mem_places.1 h
  rw [num_placed]; exact ht
theorem next_test (s : DSea) (ws : List DWind) (f : Int) (m : Nat) (h : Int) (n : Nat) : (nextM s ws f m h).testBit n = (placesOf m).any fun p => (movesM s ws f p h).testBit n := by
  unfold nextM; rw [or_test, Nat.zero_testBit, Bool.false_or]
theorem num_inj {p q : DPlace} (hp : okP p) (hq : okP q) (h : num p = num q) : p = q := by
  rw [← placed_num hp, ← placed_num hq, h]
/-- Where a package can begin to drift. -/
theorem begun_test {s : DSea} {x : DLoss} {h : Int} {p : DPlace} (hs : seaOk s = true) (hx : lossOk s x = true) (hp : okP p) : (begunM x h).testBit (num p) = true ↔ (x.hl ≤ h ∧ h ≤ x.hh) ∧ (x.cl ≤ p.c ∧ p.c ≤ x.ch) ∧ (x.bl ≤ p.b ∧ p.b ≤ x.bh) := by
  obtain ⟨s1, s2, s3, s4, s5, s6, s7⟩ := seaOk_bounds hs
  unfold lossOk rangeOk at hx; simp only [Bool.and_eq_true, decide_eq_true_eq] at hx
  unfold begunM
  by_cases hh : x.hl ≤ h ∧ h ≤ x.hh
  · rw [if_pos hh, or_or (fun c b => bit ⟨c, b⟩), Nat.zero_testBit, Bool.false_or, List.any_eq_true]
    constructor
    · rintro ⟨c, hc, h2⟩
      obtain ⟨b, hb, h3⟩ := List.any_eq_true.1 h2
      rw [bit_test, decide_eq_true_eq] at h3
      rw [mem_ints] at hc hb
      have := num_inj hp (q := ⟨c, b⟩) ⟨by show 0 ≤ c; omega, by show c ≤ 39; omega, by show 0 ≤ b; omega, by show b ≤ 6; omega⟩ h3
      subst this
      exact ⟨hh, hc, hb⟩
    · rintro ⟨_, hc, hb⟩
      refine ⟨p.c, mem_ints.2 hc, List.any_eq_true.2 ⟨p.b, mem_ints.2 hb, ?_⟩⟩
      rw [bit_test, decide_eq_true_eq]
  · rw [if_neg hh]
    simp [hh]
theorem reach_next (s : DSea) (ws : List DWind) (f : Int) (x : DLoss) (h : Int) (hl : x.hl ≤ h) : reachM s ws f x (h + 1) = nextM s ws f (reachM s ws f x h) h ||| begunM x (h + 1) := by
  unfold reachM
  rw [show (h + 1 - x.hl).toNat = (h - x.hl).toNat + 1 by omega, setAt]
  have : x.hl + ((h - x.hl).toNat : Int) = h := by omega
  rw [this]
/-- What the reference makes of a set, an hour later. -/
theorem all_next {s : DSea} (ws : List DWind) (f h : Int) (hs : seaOk s = true) : ∀ (l : List DPlace) (b : Nat), (∀ p ∈ l, placeOk s p = true) →
    l.foldl (fun o p => allL o (placesOf (movesM s ws f p h))) (placesOf b) = placesOf (l.foldl (fun m p => m ||| movesM s ws f p h) b)
  | [], b, _ => rfl
  | p :: r, b, hl => by
    rw [List.foldl_cons, List.foldl_cons, allL_or (okL_of hs (movesM_ok ws f h hs (hl p (by simp))))]
    exact all_next ws f h hs r _ (fun q hq => hl q (by simp [hq]))
theorem clamp_is {n a b : Int} (h : a ≤ b) : max a (min b n) = clamp n a b := by unfold clamp; omega
/-! ### Lists of places, in order -/
theorem places_sorted (m : Nat) : ∀ k, (upTo m k).Pairwise (fun p q => ltP p q = true)
  | 0 => by simp [upTo]
  | k + 1 => by
    cases hb : m.testBit k
    · rw [upTo_no hb]; exact places_sorted m k
    · rw [upTo_yes hb, List.pairwise_append]
      refine ⟨places_sorted m k, by simp, fun p hp q hq => ?_⟩
      simp only [List.mem_singleton] at hq
      subst hq
      simp only [upTo, List.mem_map, List.mem_filter, List.mem_range] at hp
      obtain ⟨n, ⟨hn, _⟩, rfl⟩ := hp
      rw [ltP_iff]
      simp only [placed]
      omega
end Go.Proofs.YtjekioabkmijbaaGreatDoor
/- Plain: one wind more. -/
set_option linter.unusedVariables false
set_option linter.unusedSimpArgs false
namespace Go.Proofs.YtjekioabkmijbaaGreatDoor
theorem errLogFrom_at : ∀ (r pre : List DWind), (errLogFrom pre r).2 = 0 → ∀ (j : Nat) x, r[j]? = some x → errNext (pre ++ r.take j) x = 0
  | [], pre, _, j, x, h => by simp at h
  | y :: r, pre, h, j, x, hj => by
    rw [errLogFrom] at h
    split at h
    · rename_i h0
      cases j with
      | zero => simp at hj; subst hj; simpa using h0
      | succ j =>
        rw [List.getElem?_cons_succ] at hj
        have := errLogFrom_at r _ h j x hj
        rw [List.take_succ_cons]
        simpa using this
    · rename_i h0; exact absurd h h0
theorem errLog_at {l : List DWind} (h : (errLog l).2 = 0) {j : Nat} {x : DWind} (hj : l[j]? = some x) : errNext (l.take j) x = 0 := by
  have := errLogFrom_at l [] h j x hj
  simpa using this
/-- What a record that is not refused tells. -/
theorem next_facts {l : List DWind} {x : DWind} (h : errNext l x = 0) : l.length < 200 ∧ windOk x = true ∧ (∀ y ∈ l, y.id ≠ x.id) ∧ (∀ y, l.getLast? = some y → y.kn ≤ x.kn) ∧ (x.vo ≠ 0 → ∃ y ∈ l, y.vo = 0 ∧ y.id = x.vo) := by
  unfold errNext at h
  split at h
  · cases h
  rename_i h1
  split at h
  · cases h
  rename_i h2
  split at h
  · cases h
  rename_i h3
  split at h
  · cases h
  rename_i h4
  refine ⟨by omega, by simpa using h2, ?_, ?_, ?_⟩
  · intro y hy e
    exact h3 (List.any_eq_true.2 ⟨y, hy, by simpa using e⟩)
  · intro y hy
    rw [hy] at h4
    simpa using h4
  · intro hv
    rw [if_neg hv] at h
    split at h
    · cases h
    rename_i h5
    have h5' : (l.any fun y => y.vo == 0 && y.id == x.vo) = true := by simpa using h5
    rw [List.any_eq_true] at h5'
    obtain ⟨y, hy, h6⟩ := h5'
    simp only [Bool.and_eq_true, beq_iff_eq] at h6
    exact ⟨y, hy, h6⟩
theorem log_voids {l : List DWind} (h : (errLog l).2 = 0) {z : DWind} (hz : z ∈ l) (hv : z.vo ≠ 0) : ∃ u ∈ l, u.vo = 0 ∧ u.id = z.vo := by
  obtain ⟨j, hj, rfl⟩ := List.mem_iff_getElem.1 hz
  obtain ⟨u, hu, h1⟩ := (next_facts (errLog_at h (List.getElem?_eq_getElem hj))).2.2.2.2 hv
  exact ⟨u, List.mem_of_mem_take hu, h1⟩
theorem counting_more {l : List DWind} {y : DWind} {known : Int} (h : (errLog l).2 = 0) (hn : errNext l y = 0) (hk : y.kn ≤ known) (hv : y.vo = 0) : counting (l ++ [y]) known = counting l known ++ [y] := by
  obtain ⟨_, _, hid, _, _⟩ := next_facts hn
  unfold counting
  have hc : ∀ x, counts (l ++ [y]) known x = counts l known x := fun x => by
    unfold counts
    simp [hv]
  have hy : counts (l ++ [y]) known y = true := by
    rw [hc]
    unfold counts
    have : (l.any fun z => (z.vo != 0 && decide (z.kn ≤ known)) && z.vo == y.id) = false := by
      rw [List.any_eq_false]
      intro z hz h3
      simp only [Bool.and_eq_true, bne_iff_ne, ne_eq, decide_eq_true_eq, beq_iff_eq] at h3
      obtain ⟨u, hu, _, hu2⟩ := log_voids h hz h3.1.1
      exact hid u hu (hu2.trans h3.2)
    rw [this]
    simp [hv, hk]
  rw [List.filter_append, List.filter_congr (fun x _ => hc x)]
  simp [hy]
theorem windAt_snoc (ws : List DWind) (y : DWind) (t : Int) : windAt (ws ++ [y]) t = if blows t y then some y else windAt ws t := by
  unfold windAt
  rw [List.reverse_append, List.reverse_singleton, List.singleton_append, List.find?_cons]
  cases blows t y <;> rfl
theorem drift_mono {s : DSea} {f t : Int} {p : DPlace} {g g' : Int × Int × Int × Int} (h1 : g'.1 ≤ g.1) (h2 : g.2.1 ≤ g'.2.1) (h3 : g'.2.2.1 ≤ g.2.2.1) (h4 : g.2.2.2 ≤ g'.2.2.2) (n : Nat) (h : (driftM s f p t g).testBit n = true) : (driftM s f p t g').testBit n = true := by
  unfold driftM at h ⊢
  rw [or_or (fun a r => bit (landing s f p t a r)), Nat.zero_testBit, Bool.false_or, List.any_eq_true] at h ⊢
  obtain ⟨a, ha, h5⟩ := h
  obtain ⟨r, hr, h6⟩ := List.any_eq_true.1 h5
  rw [mem_ints] at ha hr
  exact ⟨a, mem_ints.2 (by omega), List.any_eq_true.2 ⟨r, mem_ints.2 (by omega), h6⟩⟩
/-- No wind is known for the hours of y, from one hour up to another. -/
def freeOf (ws : List DWind) (y : DWind) (a b : Int) : Prop := ∀ t, a ≤ t → t < b → blows t y = true → windAt ws t = none
theorem moves_more {s : DSea} {ws : List DWind} {f t : Int} {p : DPlace} {y : DWind} (hg : gustOk y = true) (hf : blows t y = true → windAt ws t = none) (n : Nat) (h : (movesM s (ws ++ [y]) f p t).testBit n = true) : (movesM s ws f p t).testBit n = true := by
  unfold movesM at h ⊢
  split at h
  · rename_i hb; rw [if_pos hb]; exact h
  · rename_i hb
    rw [if_neg hb]
    unfold gust at h ⊢
    rw [windAt_snoc] at h
    cases hbl : blows t y with
    | false => rw [hbl] at h; exact h
    | true =>
      rw [hbl] at h
      rw [hf hbl]
      simp only [if_true] at h
      unfold gustOk rangeOk at hg
      simp only [Bool.and_eq_true, decide_eq_true_eq] at hg
      exact drift_mono (by show (-2 : Int) ≤ y.al; omega) (by show y.ah ≤ (2 : Int); omega) (by show (-2 : Int) ≤ y.sl; omega) (by show y.sh ≤ (2 : Int); omega) n h
theorem more_set {s : DSea} {ws : List DWind} {f h : Int} {x : DLoss} {y : DWind} (hs : seaOk s = true) (hx : lossOk s x = true) (hg : gustOk y = true) (hf : freeOf ws y x.hl h) : ∀ k : Nat, x.hl + (k : Int) ≤ h → ∀ n, (setAt s (ws ++ [y]) f x k).testBit n = true → (setAt s ws f x k).testBit n = true
  | 0, _, n, ht => ht
  | k + 1, hk, n, ht => by
    have ih := more_set (f := f) hs hx hg hf k (by omega)
    rw [setAt, Nat.testBit_or, Bool.or_eq_true] at ht ⊢
    rcases ht with ht | ht
    · left
      rw [next_test, List.any_eq_true] at ht ⊢
      obtain ⟨p, hp, hm⟩ := ht
      have hpo := okP_of hs (setAt_ok _ f hs hx k p hp)
      exact ⟨p, (mem_bit hpo).2 (ih _ (mem_bit' hp)), moves_more hg (hf _ (by omega) (by omega)) n hm⟩
    · exact .inr ht
theorem more_reach {s : DSea} {ws : List DWind} {f h : Int} {x : DLoss} {y : DWind} (hs : seaOk s = true) (hx : lossOk s x = true) (hl : x.hl ≤ h) (hg : gustOk y = true) (hf : freeOf ws y x.hl h) (p : DPlace) (hp : p ∈ placesOf (reachM s (ws ++ [y]) f x h)) : p ∈ placesOf (reachM s ws f x h) := by
  have hpo := okP_of hs (setAt_ok _ f hs hx _ p hp)
  exact (mem_bit hpo).2 (more_set hs hx hg hf _ (by omega) _ (mem_bit' hp))
end Go.Proofs.YtjekioabkmijbaaGreatDoor
/- The reference's at, bounded, put. -/
set_option linter.unusedVariables false
set_option linter.unusedSimpArgs false
namespace Go.Proofs.YtjekioabkmijbaaGreatDoor
open Go.RowKit
theorem wind_take {l : List DWind} {h : Int} {m : Nat} {x : DWind} (hx : l[m]? = some x) : windAt (l.take (m + 1)) h = if blows h x then some x else windAt (l.take m) h := by
  rw [List.take_add_one, hx]; exact windAt_snoc _ _ _
set_option maxHeartbeats 2000000 in
set_option maxRecDepth 20000 in
theorem at125_calls (l : List DWind) (v : Value) (h : Int) (w : World) (hl : l.length ≤ 1000000) (hs : Sl DWind.cs 9 w v l) :
    Calls Tryz.prog 125 #[v, iv h] w fun e w' => e = .returned (atV (windAt l h)) ∧ Below w.heap.size w w' := by
  obtain ⟨A, c, rfl, hc, _⟩ := hs.open_
  have HS0 := Lib.hid hs
  clear hs
  go_enter Tryz.func125, Tryz.ntmps125
  go_wp2_with fail
  refine wp_abs (fun W hW => ?_)
  have g0 : W.heap[w.heap.size]? = some (.cells #[iv 0, iv 0, iv 0, iv 0, iv 0, iv 0, iv 0, iv 0, iv 0] 53 (0, 0)) := by rw [hW]; exact blk_new _ _
  have hB : Below w.heap.size w W := by rw [hW]; exact bl_alloc (Below.refl _ _) _
  have HB := Lib.hid hB
  have G0 := Lib.hid g0
  have HS := Lib.hid (HS0.out.below hB)
  clear hW g0 hB HS0
  go_loopg [6] l.length (fun n i wr => ∃ m : Nat, m ≤ l.length ∧ n = m ∧ i = .int .i64 ((m : Int) - 1) ∧ Hid (wr = W) ∧ Hid (windAt l h = windAt (l.take m) h))
  case atStart => exact ⟨l.length, Nat.le_refl _, rfl, by go_num, rfl, by unfold Hid; rw [List.take_length]⟩
  case round =>
    obtain ⟨m, hm, hn, rfl, HV, HA⟩ := hrel
    have hv := HV.out
    subst hv
    obtain ⟨y0, y1, y2, y3, y4, y5, y6, y7, y8⟩ := wind_cells (x := ⟨0, 0, 0, 0, 0, 0, 0, 0, 0⟩) G0.out
    have f0 := fun i => blk_frozen G0.out i
    have l0 := blk_lt G0.out
    cases m with
    | zero =>
      have HN : Hid (windAt l h = none) := HA.out
      go_wp2_with fail
      refine wp_abs_post (fun U hU => ?_)
      have gu : U.heap[w.heap.size]? = some (.cells #[iv 0, iv 0, iv 0, iv 0, iv 0, iv 0, iv 0, iv 0, iv 0] 53 (0, 0)) := by rw [hU]; exact blk_set9 G0.out _ _ _ _ _ _ _ _ _
      have hbu : Below w.heap.size w U := by
        rw [hU]
        have hbx := HB.out
        repeat (first | (with_reducible exact hbx) | refine Below.setCell ?_ (by first | (simp; done) | (simp; omega)) _)
      clear hU
      obtain ⟨z0, z1, z2, z3, z4, z5, z6, z7, z8⟩ := wind_cells (x := ⟨0, 0, 0, 0, 0, 0, 0, 0, 0⟩) gu
      refine bodyPost_ret (v := atV (windAt l h)) (by rw [HN.out]; simp [results, Tryz.results125, go_sem, atV, zeroW, z0, z1, z2, z3, z4, z5, z6, z7, z8]) rfl ⟨rfl, hbu⟩
    | succ m =>
      have hlt : m < l.length := by omega
      have hx : l[m]? = some l[m] := List.getElem?_eq_getElem hlt
      obtain ⟨x, hxe⟩ : ∃ x, x = l[m] := ⟨_, rfl⟩
      rw [← hxe] at hx
      clear hxe
      obtain ⟨b, o, rfl, c0, c1, c2, c3, c4, c5, c6, c7, c8⟩ := HS.out.wind m _ hx
      have HT : Hid (windAt l h = if blows h x then some x else windAt (l.take m) h) := HA.out.trans (wind_take hx)
      have e1 : ((m + 1 : Nat) : Int) - 1 = (m : Int) := by omega
      rw [e1]
      have l1 : (m : Int) < (l.length : Int) := by omega
      have lb := World.block_lt_of_cell? _ _ c0
      clear hx e1
      by_cases h1 : x.fr ≤ h
      · by_cases h2 : h ≤ x.un
        · have HN : Hid (windAt l h = some x) := by unfold Hid; rw [HT.out, if_pos (by unfold blows; simp [h1, h2])]
          go_wp2_with fail
          refine wp_abs_post (fun U hU => ?_)
          have gu : U.heap[w.heap.size]? = some (.cells (windA x) 53 (0, 0)) := by rw [hU]; exact blk_set9 G0.out _ _ _ _ _ _ _ _ _
          have hbu : Below w.heap.size w U := by
            rw [hU]
            have hbx := HB.out
            repeat (first | (with_reducible exact hbx) | refine Below.setCell ?_ (by first | (simp; done) | (simp; omega)) _)
          clear hU
          obtain ⟨z0, z1, z2, z3, z4, z5, z6, z7, z8⟩ := wind_cells gu
          refine bodyPost_ret (v := atV (windAt l h)) (by rw [HN.out]; simp [results, Tryz.results125, go_sem, atV, z0, z1, z2, z3, z4, z5, z6, z7, z8]) rfl ⟨rfl, hbu⟩
        · have HN : Hid (windAt l h = windAt (l.take m) h) := by unfold Hid; rw [HT.out, if_neg (by unfold blows; simp [h1, h2])]
          go_wp2_with fail
          go_roundg m
          case measure => omega
          case rel => exact ⟨m, by omega, rfl, by go_num, rfl, HN.out⟩
      · have HN : Hid (windAt l h = windAt (l.take m) h) := by unfold Hid; rw [HT.out, if_neg (by unfold blows; simp [h1])]
        go_wp2_with fail
        go_roundg m
        case measure => omega
        case rel => exact ⟨m, by omega, rfl, by go_num, rfl, HN.out⟩
theorem bounded_calls (n a b : Int) (w : World) (hab : a ≤ b) : Calls Tryz.prog 146 #[iv n, iv a, iv b] w fun e w' => e = .returned (iv (clamp n a b)) ∧ w' = w := by
  rw [← clamp_is hab]
  go_enter Tryz.func146, Tryz.ntmps146
  go_wp2
  all_goals (go_ret; refine ⟨congrArg (fun z => Ending.returned (iv z)) (by omega), rfl⟩)
theorem putTo_take {l : List DPlace} {p x : DPlace} {k : Nat} (hx : l[k]? = some x) : putTo p (l.take (k + 1)) = putStep p (putTo p (l.take k)) x := by
  rw [List.take_add_one, hx]; exact putTo_snoc _ _ _
theorem putTo_len (p : DPlace) : ∀ l : List DPlace, (putTo p l).1.length ≤ 2 * l.length := by
  intro l
  have : ∀ (l : List DPlace) (a : List DPlace × Bool), (l.foldl (putStep p) a).1.length ≤ a.1.length + 2 * l.length := by
    intro l
    induction l with
    | nil => intro a; simp
    | cons x r ih =>
      intro a
      rw [List.foldl_cons]
      have h1 := ih (putStep p a x)
      have h2 : (putStep p a x).1.length ≤ a.1.length + 2 := by unfold putStep; split <;> simp
      simp only [List.length_cons]; omega
  have := this l ([], false)
  simpa [putTo] using this
theorem not_contains {l : List DPlace} {p : DPlace} (h : ∀ j y, j < l.length → l[j]? = some y → y ≠ p) : l.contains p = false := has_take h (Nat.le_refl _)
theorem place_cells1 (x : DPlace) : ∀ u ∈ DPlace.cs x, u.oneCell' = true := by
  intro u hu
  simp [DPlace.cs] at hu
  rcases hu with rfl | rfl <;> rfl
theorem ltP_true {p q : DPlace} (h : p.c < q.c ∨ p.c = q.c ∧ p.b < q.b) : ltP p q = true := ltP_iff.2 h
theorem ltP_false {p q : DPlace} (h : ¬ (p.c < q.c ∨ p.c = q.c ∧ p.b < q.b)) : ltP p q = false := by rw [Bool.eq_false_iff]; exact fun e => h (ltP_iff.1 e)
end Go.Proofs.YtjekioabkmijbaaGreatDoor
