/- The small functions of drift: ranges, records, places, hours. -/
import Derived.Test.YtjekioabkmijbaaGreatDoorZ01
import Derived.Laws.Bits64
import Derived.Laws.Bits64b
set_option linter.unusedVariables false
set_option linter.unusedSimpArgs false
namespace Go.Proofs.YtjekioabkmijbaaGreatDoor
open Go.RowKit
theorem inB_true {n a b : Int} (h : a ≤ n ∧ n ≤ b) : inB n a b = true := by simp [inB, h.1, h.2]
theorem inB_false {n a b : Int} (h : ¬ (a ≤ n ∧ n ≤ b)) : inB n a b = false := by simp [inB]; omega
theorem inB_iff {n a b : Int} : inB n a b = true ↔ a ≤ n ∧ n ≤ b := by simp [inB]
theorem in_calls (n a b : Int) (w : World) :
    Calls Tryz.prog 101 #[iv n, iv a, iv b] w fun e w' => e = .returned (.bool (inB n a b)) ∧ w = w' := by
  by_cases h : a ≤ n
  · have e : inB n a b = decide (n ≤ b) := by simp [inB, h]
    rw [e]; clear e
    go_enter Tryz.func101, Tryz.ntmps101
    go_wp2
    go_ret
    exact ⟨rfl, rfl⟩
  · have e : inB n a b = false := by simp [inB]; omega
    rw [e]; clear e
    go_enter Tryz.func101, Tryz.ntmps101
    go_wp2
    go_ret
    exact ⟨rfl, rfl⟩
theorem valid_calls (lo hi a b : Int) (w : World) :
    Calls Tryz.prog 121 #[.agg #[iv lo, iv hi], iv a, iv b] w fun e w' => e = .returned (.bool (rangeOk lo hi a b)) ∧ Below w.heap.size w w' := by
  by_cases h1 : lo ≤ hi
  · by_cases h2 : a ≤ lo
    · have e : rangeOk lo hi a b = decide (hi ≤ b) := by simp [rangeOk, h1, h2]
      rw [e]; clear e
      go_enter Tryz.func121, Tryz.ntmps121
      go_wp2
      go_ret
      exact ⟨rfl, bl_alloc (Below.refl _ _) _⟩
    · have e : rangeOk lo hi a b = false := by simp [rangeOk]; omega
      rw [e]; clear e
      go_enter Tryz.func121, Tryz.ntmps121
      go_wp2
      go_ret
      exact ⟨rfl, bl_alloc (Below.refl _ _) _⟩
  · have e : rangeOk lo hi a b = false := by simp [rangeOk]; omega
    rw [e]; clear e
    go_enter Tryz.func121, Tryz.ntmps121
    go_wp2
    go_ret
    exact ⟨rfl, bl_alloc (Below.refl _ _) _⟩
theorem hour_calls (h : Int) (w : World) :
    Calls Tryz.prog 119 #[iv h] w fun e w' => e = .returned (iv (errHour h)) ∧ w = w' := by
  by_cases hh : 0 ≤ h ∧ h ≤ 1000000
  · have e : errHour h = 0 := by simp [errHour, hh]
    rw [e]; clear e
    have hi := inB_true hh
    go_enter Tryz.func119, Tryz.ntmps119
    go_wp2_with (go_at_call 101; refine (in_calls _ _ _ _).mono ?_; rintro e w' ⟨rfl, rfl⟩)
    go_ret
    exact ⟨rfl, rfl⟩
  · have e : errHour h = 1 := by simp [errHour]; omega
    rw [e]; clear e
    have hi := inB_false hh
    go_enter Tryz.func119, Tryz.ntmps119
    go_wp2_with (go_at_call 101; refine (in_calls _ _ _ _).mono ?_; rintro e w' ⟨rfl, rfl⟩)
    go_ret
    exact ⟨rfl, rfl⟩
theorem number_calls (p : DPlace) (w : World) (hc : 0 ≤ p.c) (hc' : p.c ≤ 39) (hb : 0 ≤ p.b) (hb' : p.b ≤ 6) :
    Calls Tryz.prog 147 #[placeV p] w fun e w' => e = .returned (iv (num p : Nat)) ∧ Below w.heap.size w w' := by
  have e : ((num p : Nat) : Int) = p.c * 7 + p.b := by unfold num; omega
  rw [e]; clear e
  go_enter Tryz.func147, Tryz.ntmps147
  go_wp2
  go_ret
  exact ⟨rfl, bl_alloc (Below.refl _ _) _⟩
theorem placed_calls (n : Nat) (w : World) (hn : n ≤ 1000) :
    Calls Tryz.prog 144 #[iv (n : Nat)] w fun e w' => e = .returned (placeV (placed n)) ∧ Below w.heap.size w w' := by
  unfold placed
  go_enter Tryz.func144, Tryz.ntmps144
  go_wp2
  refine bodyPost_ret (v := .agg #[iv ((n / 7 : Nat) : Int), iv ((n % 7 : Nat) : Int)]) (by simp [results, Tryz.results144, go_sem]) rfl ⟨rfl, ?_⟩
  repeat (first | exact Below.refl _ _ | apply bl_alloc | refine Below.setCell ?_ (by simp) _)
theorem place_calls (s : DSea) (A1 A2 A3 : Option Addr) (n1 c1 n2 c2 n3 c3 : Nat) (f : Int) (p : DPlace) (w : World) (hs : 1 ≤ s.cells ∧ s.cells ≤ 40) :
    Calls Tryz.prog 118 #[.agg #[iv s.cells, iv s.bands, .slice A1 n1 c1, .slice A2 n2 c2, .slice A3 n3 c3, iv f], placeV p] w fun e w' => e = .returned (iv (errPlace s p)) ∧ Below w.heap.size w w' := by
  obtain ⟨hs1, hs2⟩ := hs
  by_cases h1 : 0 ≤ p.c ∧ p.c ≤ s.cells - 1
  · have i1 := inB_true h1
    by_cases h2 : 0 ≤ p.b ∧ p.b ≤ s.bands
    · have i2 := inB_true h2
      have e : errPlace s p = 0 := by simp [errPlace, placeOk, h1, h2]
      rw [e]; clear e h1 h2
      go_enter Tryz.func118, Tryz.ntmps118
      go_wp2_with (go_at_call 101; refine (in_calls _ _ _ _).mono ?_; rintro e w' ⟨rfl, rfl⟩)
      go_ret
      exact ⟨rfl, bl_alloc (bl_alloc (Below.refl _ _) _) _⟩
    · have i2 := inB_false h2
      have e : errPlace s p = 20 := by simp [errPlace, placeOk, h1]; omega
      rw [e]; clear e h1 h2
      go_enter Tryz.func118, Tryz.ntmps118
      go_wp2_with (go_at_call 101; refine (in_calls _ _ _ _).mono ?_; rintro e w' ⟨rfl, rfl⟩)
      go_ret
      exact ⟨rfl, bl_alloc (bl_alloc (Below.refl _ _) _) _⟩
  · have i1 := inB_false h1
    have e : errPlace s p = 20 := by simp [errPlace, placeOk]; omega
    rw [e]; clear e h1
    go_enter Tryz.func118, Tryz.ntmps118
    go_wp2_with (go_at_call 101; refine (in_calls _ _ _ _).mono ?_; rintro e w' ⟨rfl, rfl⟩)
    go_ret
    exact ⟨rfl, bl_alloc (bl_alloc (Below.refl _ _) _) _⟩
theorem far_calls (x : DLoss) (h : Int) (w : World) (hx : 0 ≤ x.hl ∧ x.hl ≤ 1000000) :
    Calls Tryz.prog 127 #[lossV x, iv h] w fun e w' => e = .returned (iv (errFar x h)) ∧ Below w.heap.size w w' := by
  obtain ⟨hx1, hx2⟩ := hx
  by_cases h0 : errHour h = 0
  · have b0 : (errHour h == 0) = true := by simp [h0]
    have b1 : (errHour h != 0) = false := by simp [h0]
    by_cases h2 : x.hl ≤ h ∧ h ≤ x.hl + 200
    · have i2 := inB_true h2
      have e : errFar x h = 0 := by simp [errFar, h0, h2]
      rw [e]; clear e h0 h2
      go_enter Tryz.func127, Tryz.ntmps127
      go_wp2_with (first | (go_at_call 119; refine (hour_calls _ _).mono ?_; rintro e w' ⟨rfl, rfl⟩) | (go_at_call 101; refine (in_calls _ _ _ _).mono ?_; rintro e w' ⟨rfl, rfl⟩))
      go_ret
      exact ⟨rfl, bl_alloc (Below.refl _ _) _⟩
    · have i2 := inB_false h2
      have e : errFar x h = 21 := by simp [errFar, h0]; omega
      rw [e]; clear e h0 h2
      go_enter Tryz.func127, Tryz.ntmps127
      go_wp2_with (first | (go_at_call 119; refine (hour_calls _ _).mono ?_; rintro e w' ⟨rfl, rfl⟩) | (go_at_call 101; refine (in_calls _ _ _ _).mono ?_; rintro e w' ⟨rfl, rfl⟩))
      go_ret
      exact ⟨rfl, bl_alloc (Below.refl _ _) _⟩
  · have b1 : (errHour h != 0) = true := by simp [h0]
    have e : errFar x h = errHour h := by unfold errFar; rw [if_neg h0]; unfold errHour at *; split at h0 <;> simp_all
    rw [e]; clear e h0
    go_enter Tryz.func127, Tryz.ntmps127
    go_wp2_with (first | (go_at_call 119; refine (hour_calls _ _).mono ?_; rintro e w' ⟨rfl, rfl⟩) | (go_at_call 101; refine (in_calls _ _ _ _).mono ?_; rintro e w' ⟨rfl, rfl⟩))
    go_ret
    exact ⟨rfl, bl_alloc (Below.refl _ _) _⟩
set_option maxHeartbeats 800000 in
theorem ckWind_calls (x : DWind) (w : World) :
    Calls Tryz.prog 55 #[windV x] w fun e w' => e = .returned (iv (errWind x)) ∧ Below w.heap.size w w' := by
  have hw : windOk x = (inB x.id 1 1000000 && inB x.kn 0 1000000 && if x.vo = 0 then gustOk x else voidOk x) := rfl
  by_cases a1 : inB x.id 1 1000000 = true
  rotate_left
  · have a1' : inB x.id 1 1000000 = false := by simpa using a1
    have e : errWind x = 1 := by simp [errWind, hw, a1']
    rw [e]; clear e hw a1
    go_enter Tryz.func55, Tryz.ntmps55
    go_wp2_with (first | (go_at_call 101; refine (in_calls _ _ _ _).mono ?_; rintro e w' ⟨rfl, rfl⟩))
    go_ret
    exact ⟨rfl, bl_alloc (Below.refl _ _) _⟩
  by_cases a2 : inB x.kn 0 1000000 = true
  rotate_left
  · have a2' : inB x.kn 0 1000000 = false := by simpa using a2
    have e : errWind x = 1 := by simp [errWind, hw, a2']
    rw [e]; clear e hw a2
    go_enter Tryz.func55, Tryz.ntmps55
    go_wp2_with (first | (go_at_call 101; refine (in_calls _ _ _ _).mono ?_; rintro e w' ⟨rfl, rfl⟩))
    go_ret
    exact ⟨rfl, bl_alloc (Below.refl _ _) _⟩
  have HW : Hid (windOk x = if x.vo = 0 then gustOk x else voidOk x) := by rw [hw, a1, a2]; simp [Hid]
  clear hw
  go_enter Tryz.func55, Tryz.ntmps55
  go_upto_region 3 with (first | (go_at_call 101; refine (in_calls _ _ _ _).mono ?_; rintro e w' ⟨rfl, rfl⟩))
  go_cut [3] (fun s3 wx => s3 = .bool (gustOk x) ∧ wx.heap[w.heap.size]? = some (.cells #[iv x.id, iv x.kn, iv x.fr, iv x.un, iv x.al, iv x.ah, iv x.sl, iv x.sh, iv x.vo] 53 (0, 0)) ∧ Below w.heap.size w wx)
  case first =>
    go_wp2_with (first | (go_at_call 101; refine (in_calls _ _ _ _).mono ?_; rintro e w' ⟨rfl, rfl⟩) | (go_at_call 121; refine (valid_calls _ _ _ _ _).mono ?_; rintro e w' ⟨rfl, hb⟩; obtain ⟨hc, hf⟩ := bcell hb; have hz : w.heap.size < w'.heap.size := (by have hq := hb.size; (try simp at hq); omega)))
    all_goals (go_meet)
    all_goals refine ⟨?_, ?_, ?_⟩
    all_goals first
      | exact blk_new _ _
      | (refine blk_below ?_ (by assumption); exact blk_new _ _)
      | (refine blk_below ?_ (by assumption); refine blk_below ?_ (by assumption); exact blk_new _ _)
      | exact bl_alloc (Below.refl _ _) _
      | (refine bl_step ?_ (by assumption); exact bl_alloc (Below.refl _ _) _)
      | (refine bl_step ?_ (by assumption); refine bl_step ?_ (by assumption); exact bl_alloc (Below.refl _ _) _)
      | (unfold gustOk; simp [*]; done)
      | (unfold gustOk; simp [*]; intros; omega)
  case rest =>
    obtain ⟨rfl, hbk, hB⟩ := hcut
    have c0 := blk_cell hbk 0
    have c1 := blk_cell hbk 1
    have c2 := blk_cell hbk 2
    have c3 := blk_cell hbk 3
    have c4 := blk_cell hbk 4
    have c5 := blk_cell hbk 5
    have c6 := blk_cell hbk 6
    have c7 := blk_cell hbk 7
    have c8 := blk_cell hbk 8
    simp only [List.getElem?_toArray, List.getElem?_cons_zero, List.getElem?_cons_succ] at c0 c1 c2 c3 c4 c5 c6 c7 c8
    clear hbk
    by_cases hv : x.vo = 0
    · have HE : Hid (errWind x = if gustOk x then 0 else 1) := by unfold Hid errWind; rw [HW.out, if_pos hv]
      have hv' : (x.vo != 0) = false := by simp [hv]
      clear hv
      by_cases hg : gustOk x = true
      · go_wp2
        go_ret
        exact ⟨by rw [HE.out, hg]; rfl, hB⟩
      · have hg' : gustOk x = false := by simpa using hg
        go_wp2
        go_ret
        exact ⟨by rw [HE.out, hg']; rfl, hB⟩
    · have HE : Hid (errWind x = if voidOk x then 0 else 1) := by unfold Hid errWind; rw [HW.out, if_neg hv]
      have hv' : (x.vo != 0) = true := by simp [hv]
      clear hv
      go_wp2_with (first | (go_at_call 101; refine (in_calls _ _ _ _).mono ?_; rintro e w' ⟨rfl, rfl⟩))
      all_goals go_ret
      all_goals refine ⟨?_, hB⟩
      all_goals (rw [HE.out]; unfold voidOk; simp [*])
end Go.Proofs.YtjekioabkmijbaaGreatDoor
/- The words of a set of places: what '|', '&', '<<', '>>' do to its bits. -/
set_option linter.unusedVariables false
set_option linter.unusedSimpArgs false
namespace Go.Proofs.YtjekioabkmijbaaGreatDoor
open Go.RowKit
def limE : Nat := 320
/-- All sets of places are below this number. -/
def lim : Nat := 2 ^ limE
def wdN (m i : Nat) : Nat := m >>> (64 * i) % 18446744073709551616
theorem wd_eq (m i : Nat) : wd m i = (wdN m i : Int) := rfl
theorem wdN_lt (m i : Nat) : wdN m i < 18446744073709551616 := Nat.mod_lt _ (by omega)
theorem wdN_bit (m i j : Nat) : (wdN m i).testBit j = (decide (j < 64) && m.testBit (64 * i + j)) := by
  unfold wdN
  rw [show (18446744073709551616 : Nat) = 2 ^ 64 from rfl, Nat.testBit_mod_two_pow, Nat.testBit_shiftRight]
theorem wdN_or (m m' i : Nat) : wdN (m ||| m') i = wdN m i ||| wdN m' i := by
  apply Nat.eq_of_testBit_eq
  intro j
  simp only [wdN_bit, Nat.testBit_or]
  cases decide (j < 64) <;> simp
theorem wdN_and (m m' i : Nat) : wdN (m &&& m') i = wdN m i &&& wdN m' i := by
  apply Nat.eq_of_testBit_eq
  intro j
  simp only [wdN_bit, Nat.testBit_and]
  cases decide (j < 64) <;> simp
theorem wd_or (m m' i : Nat) : bits .or .u64 (wd m i) (wd m' i) = wd (m ||| m') i := by
  rw [wd_eq, wd_eq, wd_eq, bits_or_u64_nat _ _ (wdN_lt _ _) (wdN_lt _ _), wdN_or]
theorem wd_and (m m' i : Nat) : bits .and .u64 (wd m i) (wd m' i) = wd (m &&& m') i := by
  rw [wd_eq, wd_eq, wd_eq, bits_and_u64_nat _ _ (wdN_lt _ _) (wdN_lt _ _), wdN_and]

theorem wd_ext {m m' : Nat} (hm : m < lim) (hm' : m' < lim) (h : ∀ i, i < 5 → wd m i = wd m' i) : m = m' := by
  apply Nat.eq_of_testBit_eq
  intro n
  by_cases hn : n < 320
  · have h1 := h (n / 64) (by omega)
    rw [wd_eq, wd_eq] at h1
    have h2 : (wdN m (n / 64)).testBit (n % 64) = (wdN m' (n / 64)).testBit (n % 64) := by rw [Int.ofNat.inj h1]
    rw [wdN_bit, wdN_bit] at h2
    have h3 : decide (n % 64 < 64) = true := by simp; omega
    rw [h3, Bool.true_and, Bool.true_and, show 64 * (n / 64) + n % 64 = n from by omega] at h2
    exact h2
  · have hp : lim ≤ 2 ^ n := Nat.pow_le_pow_right (show 0 < 2 by decide) (show limE ≤ n by unfold limE; omega)
    rw [Nat.testBit_lt_two_pow (Nat.lt_of_lt_of_le hm hp), Nat.testBit_lt_two_pow (Nat.lt_of_lt_of_le hm' hp)]
theorem wd_zero (i : Nat) : wd 0 i = 0 := by simp [wd]
theorem wd_has (m n : Nat) : (bits .and .u64 (wd m (n / 64) / 2 ^ (n % 64)) 1 == 1) = m.testBit n := by
  have e : wd m (n / 64) / 2 ^ (n % 64) = ((wdN m (n / 64) / 2 ^ (n % 64) : Nat) : Int) := by
    rw [wd_eq]
    exact (Int.natCast_ediv _ _).symm ▸ by simp
  rw [e, show (1 : Int) = ((1 : Nat) : Int) from rfl, bits_and_u64_nat _ _ (Nat.lt_of_le_of_lt (Nat.div_le_self _ _) (wdN_lt _ _)) (by omega)]
  have h := wdN_bit m (n / 64) (n % 64)
  rw [show 64 * (n / 64) + n % 64 = n from by omega, show decide (n % 64 < 64) = true from by simp; omega, Bool.true_and] at h
  rw [← h, Nat.testBit, Nat.shiftRight_eq_div_pow]
  rw [Nat.and_comm]
  have h2 : (1 &&& (wdN m (n / 64) / 2 ^ (n % 64))) = 0 ∨ (1 &&& (wdN m (n / 64) / 2 ^ (n % 64))) = 1 := by
    rw [Nat.and_comm, Nat.and_one_is_mod]; omega
  rcases h2 with h2 | h2 <;> simp [h2]
theorem bit_mask (n i : Nat) : wdN (1 <<< n) i = if i = n / 64 then 2 ^ (n % 64) else 0 := by
  apply Nat.eq_of_testBit_eq
  intro j
  rw [wdN_bit, Nat.one_shiftLeft, Nat.testBit_two_pow]
  split
  · rename_i h
    rw [Nat.testBit_two_pow]
    by_cases hj : j < 64
    · simp only [hj, decide_true, Bool.true_and, decide_eq_decide]; omega
    · simp only [hj, decide_false, Bool.false_and]
      have : n % 64 ≠ j := by omega
      simp [this]
  · rename_i h
    by_cases hj : j < 64
    · have : n ≠ 64 * i + j := by omega
      simp [this]
    · simp [hj]
theorem wd_add (m n : Nat) : bits .or .u64 (wd m (n / 64)) (2 ^ (n % 64)) = wd (m ||| 1 <<< n) (n / 64) := by
  have hlt : 2 ^ (n % 64) < 18446744073709551616 := by
    have : 2 ^ (n % 64) < 2 ^ 64 := Nat.pow_lt_pow_right (by omega) (by omega)
    simpa using this
  rw [wd_eq, wd_eq, show (2 : Int) ^ (n % 64) = ((2 ^ (n % 64) : Nat) : Int) from by simp, bits_or_u64_nat _ _ (wdN_lt _ _) hlt, wdN_or, bit_mask, if_pos rfl]
theorem wd_other (m n i : Nat) (h : i ≠ n / 64) : wd (m ||| 1 <<< n) i = wd m i := by
  rw [wd_eq, wd_eq, wdN_or, bit_mask, if_neg h, Nat.or_zero]
theorem or_lt {m n : Nat} (hm : m < lim) (hn : n < lim) : m ||| n < lim := Nat.or_lt_two_pow hm hn
theorem bit_lt {n : Nat} (hn : n < 320) : 1 <<< n < lim := by rw [Nat.one_shiftLeft]; exact Nat.pow_lt_pow_right (show 1 < 2 by decide) (show n < limE by unfold limE; omega)
theorem set_lt {m n : Nat} (hm : m < lim) (hn : n < 320) : m ||| 1 <<< n < lim := or_lt hm (bit_lt hn)
end Go.Proofs.YtjekioabkmijbaaGreatDoor
