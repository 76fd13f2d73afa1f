/- The reference's CheckSea. -/
import Derived.Test.YtjekioabkmijbaaGreatDoorZ35
import Derived.Test.YtjekioabkmijbaaGreatDoorZ00
set_option linter.unusedVariables false
set_option linter.unusedSimpArgs false
namespace Go.Proofs.YtjekioabkmijbaaGreatDoor
open Go.RowKit
def seaHeadR (s : DSea) : Bool := inB s.cells 1 40 && (inB s.bands 1 6 && (((s.hts.length : Int) == s.cells) && inB (s.tds.length : Int) 1 30))
theorem seaOk_headR (s : DSea) : seaOk s = (seaHeadR s && (s.hts.all (fun h => inB h 0 9) && s.tds.all (fun t => inB t.al (-3) 3 && inB t.ht 0 9))) := by
  unfold seaOk seaHeadR inB heightOk tideOk
  rw [Bool.eq_iff_iff]
  simp only [Bool.and_eq_true, decide_eq_true_eq, beq_iff_eq]
  constructor
  · rintro ⟨⟨⟨a, b, c, d, e, f, g⟩, h⟩, i⟩
    exact ⟨⟨⟨a, b⟩, ⟨c, d⟩, e, by omega, by omega⟩, h, i⟩
  · rintro ⟨⟨⟨a, b⟩, ⟨c, d⟩, e, f, g⟩, h, i⟩
    exact ⟨⟨⟨a, b, c, d, e, by omega, by omega⟩, h⟩, i⟩
set_option maxHeartbeats 4000000 in
set_option maxRecDepth 20000 in
theorem checkSeaR_calls (s : DSea) (vh vt : Value) (w : World) (h1 : Sl intCs 1 w vh s.hts) (h2 : Sl DTide.cs 2 w vt s.tds) :
    Calls Tryz.prog 42 #[.agg #[iv s.cells, iv s.bands, vh, vt]] w fun e w' => e = .returned (iv (errSea s)) ∧ Below w.heap.size w w' := by
  obtain ⟨A1, c1, rfl, hc1, hl1⟩ := h1.open_
  obtain ⟨A2, c2, rfl, hc2, hl2⟩ := h2.open_
  have hb0 : Below w.heap.size w (w.alloc (.cells #[iv s.cells, iv s.bands, .slice A1 s.hts.length c1, .slice A2 s.tds.length c2] 25)) := bl_alloc (Below.refl _ _) _
  have H1 := Lib.hid (h1.below hb0)
  have H2 := Lib.hid (h2.below hb0)
  have HB0 := Lib.hid hb0
  clear h1 h2 hb0
  cases hh : seaHeadR s with
  | false =>
    have HE : Hid (errSea s = 1) := by unfold Hid errSea; rw [seaOk_headR, hh]; rfl
    unfold seaHeadR at hh
    cases q1 : inB s.cells 1 40 <;> cases q2 : inB s.bands 1 6 <;> cases q3 : ((s.hts.length : Int) == s.cells) <;> cases q4 : inB (s.tds.length : Int) 1 30 <;> simp [q1, q2, q3, q4] at hh
    all_goals (have q5 : ((s.hts.length : Int) != s.cells) = !((s.hts.length : Int) == s.cells) := rfl; rw [q3] at q5; clear hh)
    all_goals (go_enter Tryz.func42, Tryz.ntmps42)
    all_goals (go_wp2_with (first | (go_at_call 106; refine (within106_calls _ _ _ _).mono ?_; rintro e w' ⟨rfl, rfl⟩; simp only [q1, q2, q4])))
    all_goals (refine bodyPost_ret (v := iv (errSea s)) (by rw [HE.out]; simp [results, Tryz.results42, go_sem]) rfl ⟨rfl, HB0.out⟩)
  | true =>
    have HA := Lib.hid (seaOk_headR s)
    rw [hh] at HA
    unfold seaHeadR at hh
    simp only [Bool.and_eq_true] at hh
    obtain ⟨q1, q2, q3, q4⟩ := hh
    have q5 : ((s.hts.length : Int) != s.cells) = !((s.hts.length : Int) == s.cells) := rfl
    rw [q3] at q5
    obtain ⟨W, hW⟩ : ∃ W, W = w.alloc (.cells #[iv s.cells, iv s.bands, .slice A1 s.hts.length c1, .slice A2 s.tds.length c2] 25) := ⟨_, rfl⟩
    have g0 : W.heap[w.heap.size]? = some (.cells #[iv s.cells, iv s.bands, .slice A1 s.hts.length c1, .slice A2 s.tds.length c2] 25 (0, 0)) := by rw [hW]; exact blk_new _ _
    have HW := Lib.hid hW
    go_enter Tryz.func42, Tryz.ntmps42
    go_wp2_with (first | (go_at_call 106; refine (within106_calls _ _ _ _).mono ?_; rintro e w' ⟨rfl, rfl⟩; simp only [q1, q2, q4]))
    have hP : ∀ l : List Int, ∀ k : Nat, k ≤ l.length → (∀ (j : Nat) (y : Int), j < k → l[j]? = some y → inB y 0 9 = true) → k = l.length → l.all (fun h => inB h 0 9) = true := fun l k _ h e => by
      rw [List.all_eq_true]
      intro y hy
      obtain ⟨j, hj, rfl⟩ := List.mem_iff_getElem.1 hy
      exact h j _ (by omega) (List.getElem?_eq_getElem hj)
    go_loopg [3] s.hts.length (fun n i wr => ∃ k : Nat, k ≤ s.hts.length ∧ n = s.hts.length - k ∧ i = .int .i64 k ∧ Hid (wr = W) ∧ Hid (∀ (j : Nat) (y : Int), j < k → s.hts[j]? = some y → inB y 0 9 = true))
    case atStart => exact ⟨0, by omega, by omega, rfl, HW.out.symm, fun j y hj => by omega⟩
    case round =>
      obtain ⟨k, hk, hn, rfl, HV, H0⟩ := hrel
      have hv := HV.out
      subst hv
      have c2' := blk_cell g0 2
      have c3' := blk_cell g0 3
      simp only [List.getElem?_toArray, List.getElem?_cons_zero, List.getElem?_cons_succ] at c2' c3'
      have lw := blk_lt g0
      have H1' := H1.out
      rw [← HW.out] at H1'
      by_cases hlt : k < s.hts.length
      · have hx : s.hts[k]? = some s.hts[k] := List.getElem?_eq_getElem hlt
        obtain ⟨x, hxe⟩ : ∃ x, x = s.hts[k] := ⟨_, rfl⟩
        rw [← hxe] at hx
        clear hxe
        obtain ⟨b, o, rfl, d0⟩ := H1'.int k _ hx
        have HX := Lib.hid hx
        have l1 : (k : Int) < (s.hts.length : Int) := by omega
        clear hx H1' hW
        cases hin : inB x 0 9 with
        | false =>
          have HE : Hid (errSea s = 1) := by
            unfold Hid errSea
            rw [HA.out, show s.hts.all (fun h => inB h 0 9) = false from by
              rw [Bool.eq_false_iff]; intro h; rw [List.all_eq_true] at h
              have := h x (List.mem_of_getElem? HX.out); rw [hin] at this; cases this]
            rfl
          go_wp2_with (first | (go_at_call 106; refine (within106_calls _ _ _ _).mono ?_; rintro e w' ⟨rfl, rfl⟩; simp only [hin]))
          refine bodyPost_ret (v := iv (errSea s)) (by rw [HE.out]; simp [results, Tryz.results42, go_sem]) rfl ⟨rfl, ?_⟩
          rw [HW.out]; exact HB0.out
        | true =>
          go_wp2_with (first | (go_at_call 106; refine (within106_calls _ _ _ _).mono ?_; rintro e w' ⟨rfl, rfl⟩; simp only [hin]))
          go_roundg (s.hts.length - (k + 1))
          case measure => omega
          case rel => exact ⟨k + 1, by omega, rfl, by go_num, rfl, fun j y hj hy => by
            rcases Nat.lt_or_ge j k with h | h
            · exact H0.out j y h hy
            · obtain rfl : j = k := by omega
              have hx := HX.out
              rw [hy] at hx
              cases hx
              exact hin⟩
      · obtain rfl : k = s.hts.length := by omega
        have HH : Hid (s.hts.all (fun h => inB h 0 9) = true) := hP s.hts _ hk H0.out rfl
        have H2' := H2.out
        rw [← HW.out] at H2'
        have H2W := Lib.hid H2'
        clear H1' H2' hW
        go_wp2_with fail
        go_loopg [4] s.tds.length (fun n i wr' => ∃ k : Nat, k ≤ s.tds.length ∧ n = s.tds.length - k ∧ i = .int .i64 k ∧ Hid (wr' = wr) ∧ Hid (∀ (j : Nat) (y : DTide), j < k → s.tds[j]? = some y → (inB y.al (-3) 3 && inB y.ht 0 9) = true))
        case atStart => exact ⟨0, by omega, by omega, rfl, rfl, fun j y hj => by omega⟩
        case round =>
          obtain ⟨k, hk2, hn2, rfl, HV2, H02⟩ := hrel
          have hv2 := HV2.out
          subst hv2
          by_cases hlt2 : k < s.tds.length
          · have hx : s.tds[k]? = some s.tds[k] := List.getElem?_eq_getElem hlt2
            obtain ⟨x, hxe⟩ : ∃ x, x = s.tds[k] := ⟨_, rfl⟩
            rw [← hxe] at hx
            clear hxe
            obtain ⟨b, o, rfl, d0, d1⟩ := H2W.out.tide k _ hx
            have HX := Lib.hid hx
            have l1 : (k : Int) < (s.tds.length : Int) := by omega
            have hbad : (inB x.al (-3) 3 && inB x.ht 0 9) = false → Hid (errSea s = 1) := fun hb => by
              unfold Hid errSea
              rw [HA.out, HH.out, show s.tds.all (fun t => inB t.al (-3) 3 && inB t.ht 0 9) = false from by
                rw [Bool.eq_false_iff]; intro h; rw [List.all_eq_true] at h
                have := h x (List.mem_of_getElem? HX.out); rw [hb] at this; cases this]
              rfl
            clear hx
            cases hin : inB x.al (-3) 3 with
            | false =>
              have HE := hbad (by rw [hin]; rfl)
              clear hbad
              go_wp2_with (first | (go_at_call 106; refine (within106_calls _ _ _ _).mono ?_; rintro e w' ⟨rfl, rfl⟩; simp only [hin]))
              refine bodyPost_ret (v := iv (errSea s)) (by rw [HE.out]; simp [results, Tryz.results42, go_sem]) rfl ⟨rfl, ?_⟩
              rw [HW.out]; exact HB0.out
            | true =>
              cases hin2 : inB x.ht 0 9 with
              | false =>
                have HE := hbad (by rw [hin, hin2]; rfl)
                clear hbad
                go_wp2_with (first | (go_at_call 106; refine (within106_calls _ _ _ _).mono ?_; rintro e w' ⟨rfl, rfl⟩; simp only [hin, hin2]))
                refine bodyPost_ret (v := iv (errSea s)) (by rw [HE.out]; simp [results, Tryz.results42, go_sem]) rfl ⟨rfl, ?_⟩
                rw [HW.out]; exact HB0.out
              | true =>
                clear hbad
                go_wp2_with (first | (go_at_call 106; refine (within106_calls _ _ _ _).mono ?_; rintro e w' ⟨rfl, rfl⟩; simp only [hin, hin2]))
                go_roundg (s.tds.length - (k + 1))
                case measure => omega
                case rel => exact ⟨k + 1, by omega, rfl, by go_num, rfl, fun j y hj hy => by
                  rcases Nat.lt_or_ge j k with h | h
                  · exact H02.out j y h hy
                  · obtain rfl : j = k := by omega
                    have hx := HX.out
                    rw [hy] at hx
                    cases hx
                    rw [hin, hin2]; rfl⟩
          · have HE : Hid (errSea s = 0) := by
              unfold Hid errSea
              rw [HA.out, HH.out, show s.tds.all (fun t => inB t.al (-3) 3 && inB t.ht 0 9) = true from by
                rw [List.all_eq_true]
                intro y hy
                obtain ⟨j, hj, rfl⟩ := List.mem_iff_getElem.1 hy
                exact H02.out j _ (by omega) (List.getElem?_eq_getElem hj)]
              rfl
            go_wp2_with fail
            refine bodyPost_ret (v := iv (errSea s)) (by rw [HE.out]; simp [results, Tryz.results42, go_sem]) rfl ⟨rfl, ?_⟩
            rw [HW.out]; exact HB0.out
end Go.Proofs.YtjekioabkmijbaaGreatDoor
/- small. -/
set_option linter.unusedVariables false
set_option linter.unusedSimpArgs false
namespace Go.Proofs.YtjekioabkmijbaaGreatDoor
open Go.RowKit
set_option maxHeartbeats 4000000 in
set_option maxRecDepth 20000 in
theorem small_calls (s : DSea) (l : List DWind) (vh vt vl : Value) (w : World) (h1 : Sl intCs 1 w vh s.hts) (h2 : Sl DTide.cs 2 w vt s.tds) (h3 : Sl DWind.cs 9 w vl l) :
    Calls Tryz.prog 19 #[.agg #[iv s.cells, iv s.bands, vh, vt], vl] w fun e w' => SaysBool w e w' := by
  have hb0 : Below w.heap.size w (w.alloc (.cells #[iv s.cells, iv s.bands, vh, vt] 25)) := bl_alloc (Below.refl _ _) _
  have HC := Lib.hid (checkSeaR_calls s vh vt _ (h1.below hb0) (h2.below hb0))
  have HB0 := Lib.hid hb0
  obtain ⟨A1, c1, rfl, hc1, hl1⟩ := h1.open_
  obtain ⟨A2, c2, rfl, hc2, hl2⟩ := h2.open_
  obtain ⟨A3, c3, rfl, hc3, hl3⟩ := h3.open_
  clear h1 h2 h3 hb0
  go_enter Tryz.func19, Tryz.ntmps19
  go_wp2_with (first | (go_at_call 42; refine HC.out.mono ?_; rintro e w' ⟨rfl, hb⟩; have HB := Lib.hid (bl_step HB0.out hb); clear hb))
  all_goals (go_ret; first | exact ⟨⟨_, rfl⟩, HB0.out⟩ | (rename Hid (Below _ _ _) => HB; exact ⟨⟨_, rfl⟩, HB.out⟩))
end Go.Proofs.YtjekioabkmijbaaGreatDoor
/- What the laws hold in their boxes. -/
set_option linter.unusedVariables false
set_option linter.unusedSimpArgs false
namespace Go.Proofs.YtjekioabkmijbaaGreatDoor
open Go.RowKit
def LawTrue (w : World) (e : Ending) (w' : World) : Prop := e = .returned (.bool true) ∧ Below w.heap.size w w'
/-- The sea in its box, and the log. -/
def Seas (s : DSea) (l : List DWind) (b0 : Nat) (A1 : Option Addr) (k1 : Nat) (A2 : Option Addr) (k2 : Nat) (A3 : Option Addr) (k3 : Nat) (V : World) : Prop :=
  V.heap[b0]? = some (.cells #[iv s.cells, iv s.bands, .slice A1 s.hts.length k1, .slice A2 s.tds.length k2] 25 (0, 0)) ∧ Sl intCs 1 V (.slice A1 s.hts.length k1) s.hts ∧ Sl DTide.cs 2 V (.slice A2 s.tds.length k2) s.tds ∧ Sl DWind.cs 9 V (.slice A3 l.length k3) l
section
variable {s : DSea} {l : List DWind} {b0 : Nat} {A1 : Option Addr} {k1 : Nat} {A2 : Option Addr} {k2 : Nat} {A3 : Option Addr} {k3 : Nat} {V V' : World}
theorem Seas.below (h : Seas s l b0 A1 k1 A2 k2 A3 k3 V) (hb : Below V.heap.size V V') : Seas s l b0 A1 k1 A2 k2 A3 k3 V' := ⟨blk_below h.1 hb, h.2.1.below hb, h.2.2.1.below hb, h.2.2.2.below hb⟩
theorem Seas.cells (h : Seas s l b0 A1 k1 A2 k2 A3 k3 V) : (V.cell? ⟨b0, 0, none⟩ = some (iv s.cells) ∧ V.cell? ⟨b0, 1, none⟩ = some (iv s.bands) ∧ V.cell? ⟨b0, 2, none⟩ = some (.slice A1 s.hts.length k1) ∧ V.cell? ⟨b0, 3, none⟩ = some (.slice A2 s.tds.length k2)) ∧ b0 < V.heap.size :=
  ⟨⟨blk_cell h.1 0, blk_cell h.1 1, blk_cell h.1 2, blk_cell h.1 3⟩, blk_lt h.1⟩
end
end Go.Proofs.YtjekioabkmijbaaGreatDoor
/- Plain: what is known later changes nothing. -/
set_option linter.unusedVariables false
set_option linter.unusedSimpArgs false
namespace Go.Proofs.YtjekioabkmijbaaGreatDoor
theorem errLogFrom_snoc (x : DWind) : ∀ (r pre : List DWind), (errLogFrom pre r).2 = 0 → errNext (pre ++ r) x = 0 → (errLogFrom pre (r ++ [x])).2 = 0
  | [], pre, _, h => by
    rw [List.append_nil] at h
    simp [errLogFrom, h]
  | y :: r, pre, h1, h => by
    rw [List.cons_append, errLogFrom]
    rw [errLogFrom] at h1
    split at h1
    · rename_i h2
      rw [if_pos h2]
      exact errLogFrom_snoc x r _ h1 (by rw [List.append_assoc]; exact h)
    · rename_i h2
      exact absurd h1 h2
theorem errLog_snoc {l : List DWind} {x : DWind} (h1 : (errLog l).2 = 0) (h : errNext l x = 0) : (errLog (l ++ [x])).2 = 0 := errLogFrom_snoc x l [] h1 h
theorem errAsk_snoc {s : DSea} {l : List DWind} {x : DLoss} {f h : Int} {p : Option DPlace} {y : DWind} (h1 : errAsk s l x f p h = 0) (h2 : (errLog l).2 = 0) (h3 : errNext l y = 0) : errAsk s (l ++ [y]) x f p h = 0 := by
  unfold errAsk errSail at h1 ⊢
  rw [errLog_snoc h2 h3]
  rw [h2] at h1
  exact h1
theorem counting_snoc {l : List DWind} {y : DWind} {known : Int} (h : known < y.kn) : counting (l ++ [y]) known = counting l known := by
  unfold counting
  have hc : ∀ x, counts (l ++ [y]) known x = counts l known x := fun x => by
    unfold counts
    have : decide (y.kn ≤ known) = false := by simpa using h
    simp [this]
  rw [List.filter_append, List.filter_congr (fun x _ => hc x)]
  have : counts (l ++ [y]) known y = false := by
    unfold counts
    have : decide (y.kn ≤ known) = false := by simpa using h
    simp [this]
  simp [this]
/-- Some record became known between both hours of knowledge. -/
def between (l : List DWind) (a b : Int) : Bool := l.any fun x => decide (min a b < x.kn) && decide (x.kn ≤ max a b)
theorem counting_between {l : List DWind} {a b : Int} (h : between l a b = false) : counting l a = counting l b := by
  have hk : ∀ x ∈ l, decide (x.kn ≤ a) = decide (x.kn ≤ b) := fun x hx => by
    unfold between at h
    rw [List.any_eq_false] at h
    have := h x hx
    simp only [Bool.and_eq_true, decide_eq_true_eq, not_and] at this
    rw [decide_eq_decide]
    omega
  unfold counting
  refine List.filter_congr fun x hx => ?_
  unfold counts
  rw [hk x hx]
  have : (l.any fun y => (y.vo != 0 && decide (y.kn ≤ a)) && y.vo == x.id) = (l.any fun y => (y.vo != 0 && decide (y.kn ≤ b)) && y.vo == x.id) := by
    rw [Bool.eq_iff_iff, List.any_eq_true, List.any_eq_true]
    constructor
    · rintro ⟨y, hy, h⟩; exact ⟨y, hy, by rw [← hk y hy]; exact h⟩
    · rintro ⟨y, hy, h⟩; exact ⟨y, hy, by rw [hk y hy]; exact h⟩
  rw [this]
end Go.Proofs.YtjekioabkmijbaaGreatDoor
