/- The references' comparisons of lists. -/
import Derived.Test.YtjekioabkmijbaaGreatDoorZ01
import Derived.ChangeKeysEq
import Derived.Deep.QuietTactic
set_option linter.unusedVariables false
set_option linter.unusedSimpArgs false
namespace Go.Proofs.YtjekioabkmijbaaGreatDoor
open Go.RowKit
theorem same_all {α : Type} {xs ys : List α} (hl : xs.length = ys.length) (h : ∀ j, j < xs.length → xs[j]? = ys[j]?) : xs = ys := by
  apply List.ext_getElem? fun j => ?_
  by_cases hj : j < xs.length
  · exact h j hj
  · rw [List.getElem?_eq_none (by omega), List.getElem?_eq_none (by omega)]
theorem info3is : ∃ i, Tryz.prog.info? 3 = some i := by
  cases h : Tryz.prog.info? 3 with
  | some i => exact ⟨i, rfl⟩
  | none => exact absurd h (by have : (Tryz.prog.info? 3).isSome = true := by kernel_rfl
                               intro h'; rw [h'] at this; cases this)
set_option maxRecDepth 100000 in
theorem eqPlace (a b c d : Int) (w : World) : (Op.equalIn 10000 48 (.agg #[iv a, iv b]) (.agg #[iv c, iv d])).run Tryz.prog w = .ok (a == c && b == d) w := by
  have hf : Tryz.prog.fieldsOf 48 = #[{ name := "Cell", type := 3, offset := 0, embedded := false, tag := "", pkgPath := "", byteOffset := 0 },
          { name := "Band", type := 3, offset := 1, embedded := false, tag := "", pkgPath := "", byteOffset := 8 }] := by simp [Program.fieldsOf, Tryz.underlying48]
  obtain ⟨i0, hi⟩ := info3is
  have hc : Tryz.prog.cellsOf 3 = 1 := by kernel_rfl
  have he : ∀ (a b : Int) (w : World), (Op.equalIn 9999 3 (.int .i64 a) (.int .i64 b)).run Tryz.prog w = .ok (a == b) w := fun a b w => by simp [go_sem]
  rw [show (10000 : Nat) = 9999 + 1 from rfl, run_equalIn_struct w 9999 48 _ _ (by rw [hf]; exact Tryz.underlying48) (by kernel_rfl), hf]
  simp only [Op.eqFields, part]
  simp [go_sem, he]
  by_cases e0 : a = c <;> by_cases e1 : b = d <;> simp [e0, e1, go_sem, he]
set_option maxRecDepth 100000 in
theorem eqLand (a b x c d y : Int) (w : World) : (Op.equalIn 10000 86 (.agg #[iv a, iv b, iv x]) (.agg #[iv c, iv d, iv y])).run Tryz.prog w = .ok (a == c && (b == d && x == y)) w := by
  have hf : Tryz.prog.fieldsOf 86 = #[{ name := "Cell", type := 3, offset := 0, embedded := false, tag := "", pkgPath := "", byteOffset := 0 },
          { name := "First", type := 3, offset := 1, embedded := false, tag := "", pkgPath := "", byteOffset := 8 },
          { name := "Last", type := 3, offset := 2, embedded := false, tag := "", pkgPath := "", byteOffset := 16 }] := by simp [Program.fieldsOf, Tryz.underlying86]
  obtain ⟨i0, hi⟩ := info3is
  have hc : Tryz.prog.cellsOf 3 = 1 := by kernel_rfl
  have he : ∀ (a b : Int) (w : World), (Op.equalIn 9999 3 (.int .i64 a) (.int .i64 b)).run Tryz.prog w = .ok (a == b) w := fun a b w => by simp [go_sem]
  rw [show (10000 : Nat) = 9999 + 1 from rfl, run_equalIn_struct w 9999 86 _ _ (by rw [hf]; exact Tryz.underlying86) (by kernel_rfl), hf]
  simp only [Op.eqFields, part]
  simp [go_sem, he]
  by_cases e0 : a = c <;> by_cases e1 : b = d <;> by_cases e2 : x = y <;> simp [e0, e1, e2, go_sem, he]
set_option maxHeartbeats 2000000 in
set_option maxRecDepth 20000 in
theorem samePlaces_calls (xs ys : List DPlace) (v u : Value) (w : World) (h1 : Sl DPlace.cs 2 w v xs) (h2 : Sl DPlace.cs 2 w u ys) :
    Calls Tryz.prog 28 #[v, u] w fun e w' => e = .returned (.bool (decide (xs = ys))) ∧ Below w.heap.size w w' := by
  obtain ⟨A, c, rfl, hc, hl⟩ := h1.open_
  obtain ⟨B, d, rfl, hd, hm⟩ := h2.open_
  have H1 := Lib.hid h1
  have H2 := Lib.hid h2
  clear h1 h2
  by_cases hlen : xs.length = ys.length
  · have hle : ((xs.length : Int) == (ys.length : Int)) = true := by simp [hlen]
    have hne : ((xs.length : Int) != (ys.length : Int)) = false := by simp [hlen]
    have HL := Lib.hid hlen
    clear hlen
    go_enter Tryz.func28, Tryz.ntmps28
    go_wp2_with fail
    go_loopg [5] xs.length (fun n i wr => ∃ k : Nat, k ≤ xs.length ∧ n = xs.length - k ∧ i = .int .i64 k ∧ Hid (Below w.heap.size w wr) ∧ Hid (∀ j, j < k → xs[j]? = ys[j]?))
    case atStart => exact ⟨0, by omega, by omega, rfl, Below.refl _ _, fun j hj => by omega⟩
    case round =>
      obtain ⟨k, hk, hn, rfl, HB, H0⟩ := hrel
      by_cases hlt : k < xs.length
      · have hlt2 : k < ys.length := by have := HL.out; omega
        have hx : xs[k]? = some xs[k] := List.getElem?_eq_getElem hlt
        have hy : ys[k]? = some ys[k] := List.getElem?_eq_getElem hlt2
        obtain ⟨x, hxe⟩ : ∃ x, x = xs[k] := ⟨_, rfl⟩
        obtain ⟨y, hye⟩ : ∃ y, y = ys[k] := ⟨_, rfl⟩
        rw [← hxe] at hx
        rw [← hye] at hy
        clear hxe hye
        obtain ⟨b, o, rfl, c0, c1⟩ := (H1.out.below HB.out).place k _ hx
        obtain ⟨b', o', rfl, d0, d1⟩ := (H2.out.below HB.out).place k _ hy
        have HX := Lib.hid hx
        have HY := Lib.hid hy
        have l1 : (k : Int) < (xs.length : Int) := by omega
        have l2 : (k : Int) < (ys.length : Int) := by omega
        have hk0 : (0 : Int) ≤ (k : Int) := by omega
        have lb := World.block_lt_of_cell? _ _ c0
        have lb' := World.block_lt_of_cell? _ _ d0
        have heq := fun W => eqPlace x.c x.b y.c y.b W
        by_cases hxy : x = y
        · have hb : (x.c == y.c && x.b == y.b) = true := by subst hxy; simp
          have HXY := Lib.hid hxy
          clear hx hy hxy
          go_wp2_with fail
          go_quiet (fail)
          go_wp2_with fail
          go_roundg (xs.length - (k + 1))
          case measure => omega
          case rel => exact ⟨k + 1, by omega, rfl, by go_num, bl_drewN HB.out _, fun j hj => by
            rcases Nat.lt_or_ge j k with h | h
            · exact H0.out j h
            · obtain rfl : j = k := by omega
              rw [HX.out, HY.out, HXY.out]⟩
        · have hb : (x.c == y.c && x.b == y.b) = false := by
            rw [Bool.eq_false_iff]
            intro h
            simp only [Bool.and_eq_true, beq_iff_eq] at h
            exact hxy (by cases x; cases y; simp only at h; rw [h.1, h.2])
          have HNE : Hid (decide (xs = ys) = false) := decide_eq_false fun h => hxy (by subst h; rw [hx] at hy; exact Option.some.inj hy)
          clear hx hy hxy
          go_wp2_with fail
          go_quiet (fail)
          go_wp2_with fail
          refine bodyPost_ret (v := .bool (decide (xs = ys))) (by rw [HNE.out]; simp [results, Tryz.results28, go_sem]) rfl ⟨rfl, bl_drewN HB.out _⟩
      · obtain rfl : k = xs.length := by omega
        have HEQ : Hid (decide (xs = ys) = true) := decide_eq_true (same_all HL.out H0.out)
        go_wp2_with fail
        refine bodyPost_ret (v := .bool (decide (xs = ys))) (by rw [HEQ.out]; simp [results, Tryz.results28, go_sem]) rfl ⟨rfl, HB.out⟩
  · have hle : ((xs.length : Int) == (ys.length : Int)) = false := by simp; omega
    have hne : ((xs.length : Int) != (ys.length : Int)) = true := by simp; omega
    have HNE : Hid (decide (xs = ys) = false) := decide_eq_false fun h => hlen (by rw [h])
    clear hlen
    go_enter Tryz.func28, Tryz.ntmps28
    go_wp2_with fail
    refine bodyPost_ret (v := .bool (decide (xs = ys))) (by rw [HNE.out]; simp [results, Tryz.results28, go_sem]) rfl ⟨rfl, Below.refl _ _⟩
set_option maxHeartbeats 2000000 in
set_option maxRecDepth 20000 in
theorem sameInts_calls (xs ys : List Int) (v u : Value) (w : World) (h1 : Sl intCs 1 w v xs) (h2 : Sl intCs 1 w u ys) :
    Calls Tryz.prog 29 #[v, u] w fun e w' => e = .returned (.bool (decide (xs = ys))) ∧ Below w.heap.size w w' := by
  obtain ⟨A, c, rfl, hc, hl⟩ := h1.open_
  obtain ⟨B, d, rfl, hd, hm⟩ := h2.open_
  have H1 := Lib.hid h1
  have H2 := Lib.hid h2
  clear h1 h2
  by_cases hlen : xs.length = ys.length
  · have hle : ((xs.length : Int) == (ys.length : Int)) = true := by simp [hlen]
    have hne : ((xs.length : Int) != (ys.length : Int)) = false := by simp [hlen]
    have HL := Lib.hid hlen
    clear hlen
    go_enter Tryz.func29, Tryz.ntmps29
    go_wp2_with fail
    go_loopg [5] xs.length (fun n i wr => ∃ k : Nat, k ≤ xs.length ∧ n = xs.length - k ∧ i = .int .i64 k ∧ Hid (Below w.heap.size w wr) ∧ Hid (∀ j, j < k → xs[j]? = ys[j]?))
    case atStart => exact ⟨0, by omega, by omega, rfl, Below.refl _ _, fun j hj => by omega⟩
    case round =>
      obtain ⟨k, hk, hn, rfl, HB, H0⟩ := hrel
      by_cases hlt : k < xs.length
      · have hlt2 : k < ys.length := by have := HL.out; omega
        have hx : xs[k]? = some xs[k] := List.getElem?_eq_getElem hlt
        have hy : ys[k]? = some ys[k] := List.getElem?_eq_getElem hlt2
        obtain ⟨x, hxe⟩ : ∃ x, x = xs[k] := ⟨_, rfl⟩
        obtain ⟨y, hye⟩ : ∃ y, y = ys[k] := ⟨_, rfl⟩
        rw [← hxe] at hx
        rw [← hye] at hy
        clear hxe hye
        obtain ⟨b, o, rfl, c0⟩ := (H1.out.below HB.out).int k _ hx
        obtain ⟨b', o', rfl, d0⟩ := (H2.out.below HB.out).int k _ hy
        have HX := Lib.hid hx
        have HY := Lib.hid hy
        have l1 : (k : Int) < (xs.length : Int) := by omega
        have l2 : (k : Int) < (ys.length : Int) := by omega
        have hk0 : (0 : Int) ≤ (k : Int) := by omega
        have lb := World.block_lt_of_cell? _ _ c0
        have lb' := World.block_lt_of_cell? _ _ d0
        skip
        by_cases hxy : x = y
        · have hb : (x == y) = true := by subst hxy; simp
          have HXY := Lib.hid hxy
          clear hx hy hxy
          go_wp2_with fail
          go_quiet (fail)
          go_wp2_with fail
          go_roundg (xs.length - (k + 1))
          case measure => omega
          case rel => exact ⟨k + 1, by omega, rfl, by go_num, bl_drewN HB.out _, fun j hj => by
            rcases Nat.lt_or_ge j k with h | h
            · exact H0.out j h
            · obtain rfl : j = k := by omega
              rw [HX.out, HY.out, HXY.out]⟩
        · have hb : (x == y) = false := by
            rw [Bool.eq_false_iff]
            intro h
            simp only [Bool.and_eq_true, beq_iff_eq] at h
            exact hxy (by exact h)
          have HNE : Hid (decide (xs = ys) = false) := decide_eq_false fun h => hxy (by subst h; rw [hx] at hy; exact Option.some.inj hy)
          clear hx hy hxy
          go_wp2_with fail
          go_quiet (fail)
          go_wp2_with fail
          refine bodyPost_ret (v := .bool (decide (xs = ys))) (by rw [HNE.out]; simp [results, Tryz.results29, go_sem]) rfl ⟨rfl, bl_drewN HB.out _⟩
      · obtain rfl : k = xs.length := by omega
        have HEQ : Hid (decide (xs = ys) = true) := decide_eq_true (same_all HL.out H0.out)
        go_wp2_with fail
        refine bodyPost_ret (v := .bool (decide (xs = ys))) (by rw [HEQ.out]; simp [results, Tryz.results29, go_sem]) rfl ⟨rfl, HB.out⟩
  · have hle : ((xs.length : Int) == (ys.length : Int)) = false := by simp; omega
    have hne : ((xs.length : Int) != (ys.length : Int)) = true := by simp; omega
    have HNE : Hid (decide (xs = ys) = false) := decide_eq_false fun h => hlen (by rw [h])
    clear hlen
    go_enter Tryz.func29, Tryz.ntmps29
    go_wp2_with fail
    refine bodyPost_ret (v := .bool (decide (xs = ys))) (by rw [HNE.out]; simp [results, Tryz.results29, go_sem]) rfl ⟨rfl, Below.refl _ _⟩
set_option maxHeartbeats 2000000 in
set_option maxRecDepth 20000 in
theorem sameLands_calls (xs ys : List DLand) (v u : Value) (w : World) (h1 : Sl DLand.cs 3 w v xs) (h2 : Sl DLand.cs 3 w u ys) :
    Calls Tryz.prog 30 #[v, u] w fun e w' => e = .returned (.bool (decide (xs = ys))) ∧ Below w.heap.size w w' := by
  obtain ⟨A, c, rfl, hc, hl⟩ := h1.open_
  obtain ⟨B, d, rfl, hd, hm⟩ := h2.open_
  have H1 := Lib.hid h1
  have H2 := Lib.hid h2
  clear h1 h2
  by_cases hlen : xs.length = ys.length
  · have hle : ((xs.length : Int) == (ys.length : Int)) = true := by simp [hlen]
    have hne : ((xs.length : Int) != (ys.length : Int)) = false := by simp [hlen]
    have HL := Lib.hid hlen
    clear hlen
    go_enter Tryz.func30, Tryz.ntmps30
    go_wp2_with fail
    go_loopg [5] xs.length (fun n i wr => ∃ k : Nat, k ≤ xs.length ∧ n = xs.length - k ∧ i = .int .i64 k ∧ Hid (Below w.heap.size w wr) ∧ Hid (∀ j, j < k → xs[j]? = ys[j]?))
    case atStart => exact ⟨0, by omega, by omega, rfl, Below.refl _ _, fun j hj => by omega⟩
    case round =>
      obtain ⟨k, hk, hn, rfl, HB, H0⟩ := hrel
      by_cases hlt : k < xs.length
      · have hlt2 : k < ys.length := by have := HL.out; omega
        have hx : xs[k]? = some xs[k] := List.getElem?_eq_getElem hlt
        have hy : ys[k]? = some ys[k] := List.getElem?_eq_getElem hlt2
        obtain ⟨x, hxe⟩ : ∃ x, x = xs[k] := ⟨_, rfl⟩
        obtain ⟨y, hye⟩ : ∃ y, y = ys[k] := ⟨_, rfl⟩
        rw [← hxe] at hx
        rw [← hye] at hy
        clear hxe hye
        obtain ⟨b, o, rfl, c0, c1, c2⟩ := (H1.out.below HB.out).land k _ hx
        obtain ⟨b', o', rfl, d0, d1, d2⟩ := (H2.out.below HB.out).land k _ hy
        have HX := Lib.hid hx
        have HY := Lib.hid hy
        have l1 : (k : Int) < (xs.length : Int) := by omega
        have l2 : (k : Int) < (ys.length : Int) := by omega
        have hk0 : (0 : Int) ≤ (k : Int) := by omega
        have lb := World.block_lt_of_cell? _ _ c0
        have lb' := World.block_lt_of_cell? _ _ d0
        have heq := fun W => eqLand x.c x.f x.l y.c y.f y.l W
        by_cases hxy : x = y
        · have hb : (x.c == y.c && (x.f == y.f && x.l == y.l)) = true := by subst hxy; simp
          have HXY := Lib.hid hxy
          clear hx hy hxy
          go_wp2_with fail
          go_quiet (fail)
          go_wp2_with fail
          go_roundg (xs.length - (k + 1))
          case measure => omega
          case rel => exact ⟨k + 1, by omega, rfl, by go_num, bl_drewN HB.out _, fun j hj => by
            rcases Nat.lt_or_ge j k with h | h
            · exact H0.out j h
            · obtain rfl : j = k := by omega
              rw [HX.out, HY.out, HXY.out]⟩
        · have hb : (x.c == y.c && (x.f == y.f && x.l == y.l)) = false := by
            rw [Bool.eq_false_iff]
            intro h
            simp only [Bool.and_eq_true, beq_iff_eq] at h
            exact hxy (by cases x; cases y; simp only at h; rw [h.1, h.2.1, h.2.2])
          have HNE : Hid (decide (xs = ys) = false) := decide_eq_false fun h => hxy (by subst h; rw [hx] at hy; exact Option.some.inj hy)
          clear hx hy hxy
          go_wp2_with fail
          go_quiet (fail)
          go_wp2_with fail
          refine bodyPost_ret (v := .bool (decide (xs = ys))) (by rw [HNE.out]; simp [results, Tryz.results30, go_sem]) rfl ⟨rfl, bl_drewN HB.out _⟩
      · obtain rfl : k = xs.length := by omega
        have HEQ : Hid (decide (xs = ys) = true) := decide_eq_true (same_all HL.out H0.out)
        go_wp2_with fail
        refine bodyPost_ret (v := .bool (decide (xs = ys))) (by rw [HEQ.out]; simp [results, Tryz.results30, go_sem]) rfl ⟨rfl, HB.out⟩
  · have hle : ((xs.length : Int) == (ys.length : Int)) = false := by simp; omega
    have hne : ((xs.length : Int) != (ys.length : Int)) = true := by simp; omega
    have HNE : Hid (decide (xs = ys) = false) := decide_eq_false fun h => hlen (by rw [h])
    clear hlen
    go_enter Tryz.func30, Tryz.ntmps30
    go_wp2_with fail
    refine bodyPost_ret (v := .bool (decide (xs = ys))) (by rw [HNE.out]; simp [results, Tryz.results30, go_sem]) rfl ⟨rfl, Below.refl _ _⟩
end Go.Proofs.YtjekioabkmijbaaGreatDoor
