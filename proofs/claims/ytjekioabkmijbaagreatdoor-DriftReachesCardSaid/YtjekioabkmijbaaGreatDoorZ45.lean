/- The reference's refused, Check. -/
import Derived.Test.YtjekioabkmijbaaGreatDoorZ44
import Derived.Test.YtjekioabkmijbaaGreatDoorZ08
import Derived.Test.YtjekioabkmijbaaGreatDoorZ14
import Derived.Test.YtjekioabkmijbaaGreatDoorZ20
set_option linter.unusedVariables false
set_option linter.unusedSimpArgs false
namespace Go.Proofs.YtjekioabkmijbaaGreatDoor
open Go.RowKit
theorem any_snoc {p : DWind → Bool} {l : List DWind} {k : Nat} {y : DWind} (h : l[k]? = some y) : (l.take (k + 1)).any p = ((l.take k).any p || p y) := by rw [any_take l y k h]; simp
theorem there_ways (x y : DWind) (t : Bool) : (t = true ∧ (t || thereB x y) = true) ∨ (t = false ∧ (y.id == x.vo) = false ∧ (t || thereB x y) = false) ∨ (t = false ∧ (y.id == x.vo) = true ∧ (y.vo == 0) = false ∧ (t || thereB x y) = false) ∨ (t = false ∧ (y.id == x.vo) = true ∧ (y.vo == 0) = true ∧ (t || thereB x y) = true) := by
  unfold thereB
  cases t <;> cases (y.id == x.vo) <;> cases (y.vo == 0) <;> simp
theorem again_ways (x y : DWind) (t : Bool) : (t = true ∧ (t || againB x y) = true) ∨ (t = false ∧ decide (0 < x.vo) = false ∧ (t || againB x y) = false) ∨ (t = false ∧ 0 < x.vo ∧ (y.vo == x.vo) = false ∧ (t || againB x y) = false) ∨ (t = false ∧ 0 < x.vo ∧ (y.vo == x.vo) = true ∧ (t || againB x y) = true) := by
  unfold againB
  by_cases h : 0 < x.vo
  · cases t <;> cases (y.vo == x.vo) <;> simp [h]
  · cases t <;> cases (y.vo == x.vo) <;> simp [h]
set_option maxHeartbeats 16000000 in
set_option maxRecDepth 20000 in
theorem refused_calls (l : List DWind) (x : DWind) (v : Value) (w : World) (hs : Sl DWind.cs 9 w v l) :
    Calls Tryz.prog 120 #[v, windV x] w fun e w' => e = .returned (iv (errNext l x)) ∧ Below w.heap.size w w' := by
  obtain ⟨A, c, rfl, hc, hll⟩ := hs.open_
  have HS0 := Lib.hid hs
  clear hs
  rw [← errRef_eq]
  have hE0 : errRef l x = if 200 ≤ l.length then 2 else if windOk x = false then 1 else if l.any (fun y => y.id == x.id) then 6 else if (l.getLast?.any fun y => decide (x.kn < y.kn)) then 7 else if 0 < x.vo ∧ l.any (thereB x) = false then 5 else if l.any (againB x) then 6 else 0 := rfl
  have hb0 : Hid (Below w.heap.size w (w.alloc (.cells (windA x) 53))) := bl_alloc (Below.refl _ _) _
  by_cases hlen : 200 ≤ l.length
  · have HE : Hid (errRef l x = 2) := by unfold Hid; rw [hE0, if_pos hlen]
    clear hE0
    go_enter Tryz.func120, Tryz.ntmps120
    go_wp2_with fail
    exact bodyPost_ret (v := iv (errRef l x)) (by rw [HE.out]; simp [results, Tryz.results120, go_sem]) rfl ⟨rfl, hb0.out⟩
  rw [if_neg hlen] at hE0
  have hlen' : l.length ≤ 199 := by omega
  go_enter Tryz.func120, Tryz.ntmps120
  go_wp2_with fail
  refine calls_abs (fun W hW => ?_)
  have g0 : Hid (W.heap[w.heap.size]? = some (.cells (windA x) 53 (0, 0))) := by unfold Hid; rw [hW]; exact blk_new _ _
  have hB : Hid (Below w.heap.size w W) := by unfold Hid; rw [hW]; exact hb0.out
  clear hW hb0
  refine (ckWindR_calls x W).mono ?_
  rintro e w1 ⟨rfl, hb1⟩
  have G1 := Lib.hid (blk_below g0.out hb1)
  have HB1 := Lib.hid (bl_step hB.out hb1)
  have HS1 := Lib.hid (HS0.out.below HB1.out)
  clear hb1 g0 hB HS0
  cases hwo : windOk x with
  | false =>
    have he : errWind x = 1 := by unfold errWind; rw [hwo]; rfl
    have HE : Hid (errRef l x = 1) := by unfold Hid; rw [hE0, if_pos hwo]
    rw [he]
    clear hE0 hwo
    go_wp2_with fail
    exact bodyPost_ret (v := iv (errRef l x)) (by rw [HE.out]; simp [results, Tryz.results120, go_sem]) rfl ⟨rfl, HB1.out⟩
  | true =>
    have he : errWind x = 0 := by unfold errWind; rw [hwo]; rfl
    rw [if_neg (by rw [hwo]; simp)] at hE0
    have HE0 := Lib.hid hE0
    rw [he]
    clear hE0 he hwo
    go_wp2_with fail
    go_loopg [5, 6, 7] l.length (fun n t a i wr => ∃ k : Nat, k ≤ l.length ∧ n = l.length - k ∧ i = .int .i64 k ∧ t = .bool ((l.take k).any (thereB x)) ∧ a = .bool ((l.take k).any (againB x)) ∧ Hid (Below w1.heap.size w1 wr) ∧ Hid (∀ j y, j < k → l[j]? = some y → (y.id == x.id) = false))
    case atStart => exact ⟨0, by omega, by omega, rfl, rfl, rfl, Below.refl _ _, fun j y hj => by omega⟩
    case round =>
      obtain ⟨k, hk, hn, rfl, rfl, rfl, HB, H0⟩ := hrel
      obtain ⟨t, ht⟩ : ∃ q, q = (l.take k).any (thereB x) := ⟨_, rfl⟩
      obtain ⟨a, ha⟩ : ∃ q, q = (l.take k).any (againB x) := ⟨_, rfl⟩
      rw [← ht, ← ha]
      have HT := Lib.hid ht
      have HA := Lib.hid ha
      clear ht ha
      have gp := blk_below G1.out HB.out
      obtain ⟨d0, d1, d2, d3, d4, d5, d6, d7, d8⟩ := wind_cells gp
      have lp := blk_lt gp
      clear gp
      by_cases hlt : k < l.length
      · have hx : l[k]? = some l[k] := List.getElem?_eq_getElem hlt
        obtain ⟨y, hye⟩ : ∃ y, y = l[k] := ⟨_, rfl⟩
        rw [← hye] at hx
        clear hye
        obtain ⟨b, o, rfl, c0, c1, c2, c3, c4, c5, c6, c7, c8⟩ := (HS1.out.below HB.out).wind k _ hx
        have lb := World.block_lt_of_cell? _ _ c0
        have HX := Lib.hid hx
        have HTS : Hid ((l.take (k + 1)).any (thereB x) = (t || thereB x y)) := by unfold Hid; rw [any_snoc hx, HT.out]
        have HAS : Hid ((l.take (k + 1)).any (againB x) = (a || againB x y)) := by unfold Hid; rw [any_snoc hx, HA.out]
        have l1 : (k : Int) < (l.length : Int) := by omega
        clear hx
        cases hid : (y.id == x.id) with
        | true =>
          have HE : Hid (errRef l x = 6) := by
            unfold Hid
            rw [HE0.out, if_pos (List.any_eq_true.2 ⟨y, List.mem_of_getElem? HX.out, hid⟩)]
          go_wp2_with fail
          go_quiet (fail)
          go_wp2_with fail
          exact bodyPost_ret (v := iv (errRef l x)) (by rw [HE.out]; simp [results, Tryz.results120, go_sem]) rfl ⟨rfl, bl_step HB1.out (bl_drewN HB.out _)⟩
        | false =>
          have HRL : Hid (∀ (j : Nat) (z : DWind), j < k + 1 → l[j]? = some z → (z.id == x.id) = false) := fun j z hj hz => by
            rcases Nat.lt_or_ge j k with h | h
            · exact H0.out j z h hz
            · obtain rfl : j = k := by omega
              have := HX.out
              rw [hz] at this
              cases this
              exact hid
          go_wp2_with fail
          go_quiet (fail)
          go_wp2_with fail
          refine wp_abs (fun V hV => ?_)
          have HBV : Hid (Below w1.heap.size w1 V) := by unfold Hid; rw [hV]; exact bl_drewN HB.out _
          clear hV c0 c1 c2 c3 c4 c5 c6 c7 c8 d0 d1 d2 d3 d4 d5 d6 d7 d8 lp lb HB H0 hid
          have gp := blk_below G1.out HBV.out
          obtain ⟨d0, d1, d2, d3, d4, d5, d6, d7, d8⟩ := wind_cells gp
          have lp := blk_lt gp
          obtain ⟨b', o', eb, c0, c1, c2, c3, c4, c5, c6, c7, c8⟩ := (HS1.out.below HBV.out).wind k _ HX.out
          cases eb
          have lb := World.block_lt_of_cell? _ _ c0
          clear gp
          have ht := there_ways x y t
          obtain ⟨tv, htv⟩ : ∃ q, q = (t || thereB x y) := ⟨_, rfl⟩
          have ha := again_ways x y a
          obtain ⟨av, hav⟩ : ∃ q, q = (a || againB x y) := ⟨_, rfl⟩
          rw [← htv] at ht HTS
          rw [← hav] at ha HAS
          clear htv hav
          rcases ht with ⟨rfl, rfl⟩ | ⟨rfl, t1, rfl⟩ | ⟨rfl, t1, t2, rfl⟩ | ⟨rfl, t1, t2, rfl⟩
          all_goals (rcases ha with ⟨rfl, rfl⟩ | ⟨rfl, a1, rfl⟩ | ⟨rfl, a1, a2, rfl⟩ | ⟨rfl, a1, a2, rfl⟩)
          all_goals first
            | (exfalso; simp only [beq_iff_eq] at t2 a2; omega)
            | (go_quiet (fail)
               go_wp2_with fail
               refine wp_abs (fun V2 hV2 => ?_)
               have HBV2 : Hid (Below w1.heap.size w1 V2) := by unfold Hid; rw [hV2]; exact bl_drewN HBV.out _
               clear hV2 c0 c1 c2 c3 c4 c5 c6 c7 c8 d0 d1 d2 d3 d4 d5 d6 d7 d8 lp lb
               have gp := blk_below G1.out HBV2.out
               obtain ⟨d0, d1, d2, d3, d4, d5, d6, d7, d8⟩ := wind_cells gp
               have lp := blk_lt gp
               obtain ⟨b', o', eb, c0, c1, c2, c3, c4, c5, c6, c7, c8⟩ := (HS1.out.below HBV2.out).wind k _ HX.out
               cases eb
               have lb := World.block_lt_of_cell? _ _ c0
               clear gp
               go_quiet (fail)
               go_wp2_with fail
               go_roundg (l.length - (k + 1))
               case measure => omega
               case rel => exact ⟨k + 1, by omega, rfl, by go_num, by rw [HTS.out], by rw [HAS.out], bl_drewN HBV2.out _, HRL.out⟩)
      · obtain rfl : k = l.length := by omega
        rw [List.take_length] at HT HA
        have hany : (l.any fun y => y.id == x.id) = false := by
          rw [List.any_eq_false]
          intro y hy
          obtain ⟨j, hj, rfl⟩ := List.mem_iff_getElem.1 hy
          rw [H0.out j _ hj (List.getElem?_eq_getElem hj)]; simp
        have HE1 : Hid (errRef l x = if (l.getLast?.any fun y => decide (x.kn < y.kn)) then 7 else if 0 < x.vo ∧ t = false then 5 else if a then 6 else 0) := by
          unfold Hid; rw [HE0.out, hany, HT.out, HA.out]; simp
        clear hany HE0
        have fin : ∀ (V : World), Below w1.heap.size w1 V → Hid (Below w.heap.size w V) := fun V hV => bl_step HB1.out hV
        have FIN := Lib.hid fin
        clear fin
        cases hq : l.length with
        | zero =>
          have hl0 : l = [] := List.eq_nil_of_length_eq_zero hq
          have HE2 : Hid (errRef l x = if 0 < x.vo ∧ t = false then 5 else if a then 6 else 0) := by
            unfold Hid; rw [HE1.out, hl0]; simp
          clear hl0 hq
          go_wp2_with fail
          go_quiet (fail)
          have d8' : (wr.drewN nq).cell? ⟨w.heap.size, 8, none⟩ = some (iv x.vo) := d8
          by_cases h0 : 0 < x.vo
          · cases t with
            | false =>
              have HF : Hid (errRef l x = 5) := by unfold Hid; rw [HE2.out, if_pos ⟨h0, rfl⟩]
              go_wp2_with fail
              exact bodyPost_ret (v := iv (errRef l x)) (by rw [HF.out]; simp [results, Tryz.results120, go_sem]) rfl ⟨rfl, (FIN.out _ (bl_drewN HB.out _)).out⟩
            | true =>
              cases a
              all_goals
                have HF := HE2
                rw [if_neg (by simp)] at HF
                go_wp2_with fail
                exact bodyPost_ret (v := iv (errRef l x)) (by rw [HF.out]; simp [results, Tryz.results120, go_sem]) rfl ⟨rfl, (FIN.out _ (bl_drewN HB.out _)).out⟩
          · have HF := HE2
            rw [if_neg (fun h => h0 h.1)] at HF
            cases a
            all_goals
              go_wp2_with fail
              exact bodyPost_ret (v := iv (errRef l x)) (by rw [HF.out]; simp [results, Tryz.results120, go_sem]) rfl ⟨rfl, (FIN.out _ (bl_drewN HB.out _)).out⟩
        | succ q =>
          have hxq : l[q]? = some l[q] := List.getElem?_eq_getElem (by omega)
          obtain ⟨y, hye⟩ : ∃ y, y = l[q] := ⟨_, rfl⟩
          rw [← hye] at hxq
          clear hye
          have hgl : l.getLast? = some y := by rw [List.getLast?_eq_getElem?, hq]; exact hxq
          rw [hgl] at HE1
          obtain ⟨b, o, rfl, c0, c1, c2, c3, c4, c5, c6, c7, c8⟩ := (HS1.out.below HB.out).wind q _ hxq
          have lb := World.block_lt_of_cell? _ _ c0
          have i1 : IntKind.i64.wrap (q : Int) = (q : Int) := IntWalk.i64_in _ ⟨by omega, by omega⟩
          have i2 : IntKind.i64.wrap ((q : Int) + 1 - 1) = (q : Int) := by rw [show (q : Int) + 1 - 1 = (q : Int) by omega]; exact i1
          have i3 : (0 : Int) ≤ (q : Int) := by omega
          have i4 : (q : Int) < (q : Int) + 1 := by omega
          have i5 : (0 : Int) < (q : Int) + 1 := by omega
          clear hgl hxq hq
          by_cases hkn : x.kn < y.kn
          · have HF : Hid (errRef l x = 7) := by unfold Hid; rw [HE1.out]; simp [hkn]
            go_wp2_with fail
            go_quiet (fail)
            go_wp2_with fail
            exact bodyPost_ret (v := iv (errRef l x)) (by rw [HF.out]; simp [results, Tryz.results120, go_sem]) rfl ⟨rfl, (FIN.out _ (bl_drewN HB.out _)).out⟩
          · have HE2 : Hid (errRef l x = if 0 < x.vo ∧ t = false then 5 else if a then 6 else 0) := by unfold Hid; rw [HE1.out]; simp [hkn]
            go_wp2_with fail
            go_quiet (fail)
            have d8' : (wr.drewN nq).cell? ⟨w.heap.size, 8, none⟩ = some (iv x.vo) := d8
            by_cases h0 : 0 < x.vo
            · cases t with
              | false =>
                have HF : Hid (errRef l x = 5) := by unfold Hid; rw [HE2.out, if_pos ⟨h0, rfl⟩]
                go_wp2_with fail
                exact bodyPost_ret (v := iv (errRef l x)) (by rw [HF.out]; simp [results, Tryz.results120, go_sem]) rfl ⟨rfl, (FIN.out _ (bl_drewN HB.out _)).out⟩
              | true =>
                cases a
                all_goals
                  have HF := HE2
                  rw [if_neg (by simp)] at HF
                  go_wp2_with fail
                  exact bodyPost_ret (v := iv (errRef l x)) (by rw [HF.out]; simp [results, Tryz.results120, go_sem]) rfl ⟨rfl, (FIN.out _ (bl_drewN HB.out _)).out⟩
            · have HF := HE2
              rw [if_neg (fun h => h0 h.1)] at HF
              cases a
              all_goals
                go_wp2_with fail
                exact bodyPost_ret (v := iv (errRef l x)) (by rw [HF.out]; simp [results, Tryz.results120, go_sem]) rfl ⟨rfl, (FIN.out _ (bl_drewN HB.out _)).out⟩
set_option maxHeartbeats 2000000 in
set_option maxRecDepth 20000 in
theorem checkR_calls (l : List DWind) (v : Value) (w : World) (hs : Sl DWind.cs 9 w v l) :
    Calls Tryz.prog 53 #[v] w fun e w' => e = .returned (.tuple #[iv (errLog l).1, iv (errLog l).2]) ∧ Below w.heap.size w w' := by
  obtain ⟨A, c, rfl, hc, hl⟩ := hs.open_
  have HS := Lib.hid hs
  clear hs
  go_enter Tryz.func53, Tryz.ntmps53
  go_wp2_with fail
  go_loopg [4] l.length (fun n i wr => ∃ k : Nat, k ≤ l.length ∧ n = l.length - k ∧ i = .int .i64 k ∧ Hid (Below w.heap.size w wr) ∧ Hid (okTo l k))
  case atStart => exact ⟨0, by omega, by omega, rfl, Below.refl _ _, fun j y hj => by omega⟩
  case round =>
    obtain ⟨k, hk, hn, rfl, HB, H0⟩ := hrel
    by_cases hlt : k < l.length
    · have hx : l[k]? = some l[k] := List.getElem?_eq_getElem hlt
      obtain ⟨x, hxe⟩ : ∃ x, x = l[k] := ⟨_, rfl⟩
      rw [← hxe] at hx
      clear hxe
      obtain ⟨b, o, rfl, c0, c1, c2, c3, c4, c5, c6, c7, c8⟩ := (HS.out.below HB.out).wind k _ hx
      have lb := World.block_lt_of_cell? _ _ c0
      have HX := Lib.hid hx
      have hki : (k : Int) < (l.length : Int) := by omega
      have hk0 : (0 : Int) ≤ (k : Int) := by omega
      have hkc : (k : Int) ≤ (c : Int) := by omega
      have hkc' : k ≤ c := by omega
      have HSW := Lib.hid ((HS.out.below HB.out).take k hk k (Nat.le_refl _))
      have FC : Hid (∀ V, Below wr.heap.size wr V → Calls Tryz.prog 120 #[.slice (some ⟨b, o, none⟩) k k, windV x] V fun e w' => e = .returned (iv (errNext (l.take k) x)) ∧ Below V.heap.size V w') := fun V hV => refused_calls (l.take k) x _ V (HSW.out.below hV)
      clear hx
      go_wp2_with fail
      go_region_held3 (fun V => (∀ b o, b < wr.heap.size → V.cell? ⟨b, o, none⟩ = wr.cell? ⟨b, o, none⟩) ∧ Hid (Below wr.heap.size wr V)) (first | exact sees_start wr | exact sees_step (by assumption) hb7) (first | (go_at_call 120; refine (FC.out _ (Hid.out (And.right (by assumption)))).mono ?_; rintro e w' ⟨rfl, hb7⟩))
      have hbx := (And.right ‹_ ∧ Hid _›).out
      have HBX := Lib.hid (bl_step HB.out hbx)
      obtain ⟨er, her⟩ : ∃ er, er = errNext (l.take k) x := ⟨_, rfl⟩
      rw [← her]
      have HER := Lib.hid her
      clear hbx her c0 c1 c2 c3 c4 c5 c6 c7 c8
      by_cases h0 : er = 0
      · subst h0
        go_wp2_with fail
        go_roundg (l.length - (k + 1))
        case measure => omega
        case rel => exact ⟨k + 1, by omega, rfl, by go_num, HBX.out, fun j y hj hy => by
          rcases Nat.lt_or_ge j k with h | h
          · exact H0.out j y h hy
          · obtain rfl : j = k := by omega
            have hx := HX.out
            rw [hy] at hx
            cases hx
            exact HER.out.symm⟩
      · have HE : Hid (errLog l = ((k : Int), er)) := by rw [HER.out]; exact errLog_bad HX.out H0.out (by rw [← HER.out]; exact h0)
        have e0 : (er != 0) = true := by simp [bne, h0]
        go_wp2_with fail
        refine bodyPost_ret (v := .tuple #[iv (errLog l).1, iv (errLog l).2]) (by rw [HE.out]; simp [results, Tryz.results53, go_sem]) rfl ⟨rfl, HBX.out⟩
    · obtain rfl : k = l.length := by omega
      have HE : Hid (errLog l = (0, 0)) := errLog_ok H0.out
      go_wp2_with fail
      refine bodyPost_ret (v := .tuple #[iv (errLog l).1, iv (errLog l).2]) (by rw [HE.out]; simp [results, Tryz.results53, go_sem]) rfl ⟨rfl, HB.out⟩
end Go.Proofs.YtjekioabkmijbaaGreatDoor
/- The reference's asked. -/
set_option linter.unusedVariables false
set_option linter.unusedSimpArgs false
namespace Go.Proofs.YtjekioabkmijbaaGreatDoor
open Go.RowKit
theorem errLoss_zero {s : DSea} {x : DLoss} (h : errLoss s x = 0) : seaOk s = true ∧ lossOk s x = true := by
  unfold errLoss at h
  split at h
  · rename_i h'; rw [Bool.and_eq_true] at h'; exact h'
  · simp at h
set_option maxHeartbeats 8000000 in
set_option maxRecDepth 20000 in
theorem askedR_calls (s : DSea) (l : List DWind) (x : DLoss) (p : DPlace) (f h : Int) (vh vt vl : Value) (w : World) (h1 : Sl intCs 1 w vh s.hts) (h2 : Sl DTide.cs 2 w vt s.tds) (h3 : Sl DWind.cs 9 w vl l) :
    Calls Tryz.prog 79 #[.agg #[iv s.cells, iv s.bands, vh, vt], vl, lossV x, .int .u8 f, placeV p, iv h] w fun e w' => e = .returned (iv (errAsk s l x f (some p) h)) ∧ Below w.heap.size w w' := by
  rw [← errAskR_eq]
  have HE0 : Hid (errAskR s l x f p h = orE (errSea s) (orE (errLog l).2 (orE (errLoss s x) (if f = 1 ∨ f = 2 then (if placeOk s p then (if 0 ≤ h ∧ h ≤ 1000000 then (if h < x.hl ∨ x.hl + 200 < h then 21 else 0) else 1) else 20) else 1)))) := rfl
  generalize errAskR s l x f p h = er at HE0 ⊢
  obtain ⟨A1, k1, rfl, hk1, hlk1⟩ := h1.open_
  obtain ⟨A2, k2, rfl, hk2, hlk2⟩ := h2.open_
  obtain ⟨A3, k3, rfl, hc3, hl3⟩ := h3.open_
  have H1 := Lib.hid h1
  have H2 := Lib.hid h2
  have H3 := Lib.hid h3
  clear h1 h2 h3
  go_enter Tryz.func79, Tryz.ntmps79
  go_wp2_with fail
  refine calls_abs (fun W hW => ?_)
  have hB : Below w.heap.size w W := by rw [hW]; exact bl_alloc (bl_alloc (bl_alloc (Below.refl _ _) _) _) _
  have hL : Hid (LossBox s x w.heap.size (w.heap.size + 1) A1 k1 A2 k2 W) := ⟨by rw [hW]; exact blk_alloc (blk_alloc (blk_new _ _) _) _, by rw [hW]; exact blk_alloc (blk_at _ (by simp)) _⟩
  have gp : Hid (W.heap[w.heap.size + 1 + 1]? = some (.cells #[iv p.c, iv p.b] 48 (0, 0))) := by unfold Hid; rw [hW]; exact blk_at _ (by simp)
  have HB := Lib.hid hB
  clear hW hB
  refine (checkSeaR_calls s _ _ W (H1.out.below HB.out) (H2.out.below HB.out)).mono ?_
  rintro e w1 ⟨rfl, hb1⟩
  have HB1 := Lib.hid (bl_step HB.out hb1)
  have HL1 := Lib.hid (hL.out.below hb1)
  have GP1 := Lib.hid (blk_below gp.out hb1)
  clear hb1 hL gp HB
  obtain ⟨e1, he1⟩ : ∃ q, q = errSea s := ⟨_, rfl⟩
  rw [← he1] at HE0 ⊢
  have HS1 := Lib.hid he1
  clear he1
  by_cases z1 : e1 = 0
  rotate_left
  · have HE : Hid (er = e1) := by unfold Hid; rw [HE0.out]; unfold orE; rw [if_neg z1]
    have y1 : (e1 == 0) = false := by simp [z1]
    have y2 : (e1 != 0) = true := by simp [bne, z1]
    clear z1 HE0
    go_wp2_with fail
    exact bodyPost_ret (v := iv er) (by rw [HE.out]; simp [results, Tryz.results79, go_sem]) rfl ⟨rfl, HB1.out⟩
  subst z1
  go_wp2_with fail
  refine (checkR_calls l _ w1 (H3.out.below HB1.out)).mono ?_
  rintro e w2 ⟨rfl, hb2⟩
  have HB2 := Lib.hid (bl_step HB1.out hb2)
  have HL2 := Lib.hid (HL1.out.below hb2)
  have GP2 := Lib.hid (blk_below GP1.out hb2)
  clear hb2 HL1 GP1
  obtain ⟨e2, he2⟩ : ∃ q, q = (errLog l).2 := ⟨_, rfl⟩
  rw [← he2] at HE0 ⊢
  clear he2
  by_cases z2 : e2 = 0
  rotate_left
  · have HE : Hid (er = e2) := by unfold Hid; rw [HE0.out]; unfold orE; rw [if_pos rfl, if_neg z2]
    have y1 : (e2 == 0) = false := by simp [z2]
    have y2 : (e2 != 0) = true := by simp [bne, z2]
    clear z2 HE0
    go_wp2_with fail
    exact bodyPost_ret (v := iv er) (by rw [HE.out]; simp [results, Tryz.results79, go_sem]) rfl ⟨rfl, HB2.out⟩
  subst z2
  obtain ⟨⟨a0, a1, a2, a3⟩, ⟨d0, d1, d2, d3, d4, d5, d6⟩, l0, l1⟩ := HL2.out.cells
  go_wp2_with fail
  refine (checkLossR_calls s x _ _ w2 (H1.out.below HB2.out) (H2.out.below HB2.out)).mono ?_
  rintro e w3 ⟨rfl, hb3⟩
  have HB3 := Lib.hid (bl_step HB2.out hb3)
  have HL3 := Lib.hid (HL2.out.below hb3)
  have GP3 := Lib.hid (blk_below GP2.out hb3)
  clear hb3 HL2 GP2 a0 a1 a2 a3 d0 d1 d2 d3 d4 d5 d6 l0 l1
  obtain ⟨e3, he3⟩ : ∃ q, q = errLoss s x := ⟨_, rfl⟩
  rw [← he3] at HE0 ⊢
  have HS3 := Lib.hid he3
  clear he3
  by_cases z3 : e3 = 0
  rotate_left
  · have HE : Hid (er = e3) := by unfold Hid; rw [HE0.out]; unfold orE; rw [if_pos rfl, if_pos rfl, if_neg z3]
    have y1 : (e3 == 0) = false := by simp [z3]
    have y2 : (e3 != 0) = true := by simp [bne, z3]
    clear z3 HE0
    go_wp2_with fail
    exact bodyPost_ret (v := iv er) (by rw [HE.out]; simp [results, Tryz.results79, go_sem]) rfl ⟨rfl, HB3.out⟩
  subst z3
  obtain ⟨hso, hlo⟩ := errLoss_zero HS3.out.symm
  have hsb := seaOk_bounds hso
  have hcb : Hid (1 ≤ s.cells ∧ s.cells ≤ 40) := ⟨hsb.1, hsb.2.1⟩
  have hlb := (lossOk_bounds hso hlo).2
  clear hsb hso hlo
  have HE1 : Hid (er = if f = 1 ∨ f = 2 then (if placeOk s p then (if 0 ≤ h ∧ h ≤ 1000000 then (if h < x.hl ∨ x.hl + 200 < h then 21 else 0) else 1) else 20) else 1) := by unfold Hid; rw [HE0.out]; rfl
  clear HE0
  by_cases hfl : f = 1 ∨ f = 2
  rotate_left
  · have HE : Hid (er = 1) := by unfold Hid; rw [HE1.out, if_neg hfl]
    have hd : decide (f = 1 ∨ f = 2) = false := decide_eq_false hfl
    clear hfl
    go_wp2_with (go_at_call 129; refine (afloat_calls _ _).mono ?_; rintro e w' ⟨rfl, rfl⟩; rw [hd])
    exact bodyPost_ret (v := iv er) (by rw [HE.out]; simp [results, Tryz.results79, go_sem]) rfl ⟨rfl, HB3.out⟩
  rw [if_pos hfl] at HE1
  have hd : decide (f = 1 ∨ f = 2) = true := decide_eq_true hfl
  clear hfl
  obtain ⟨⟨a0, a1, a2, a3⟩, ⟨d0, d1, d2, d3, d4, d5, d6⟩, l0, l1⟩ := HL3.out.cells
  have lp := blk_lt GP3.out
  obtain ⟨p0, p1⟩ := place_cells GP3.out
  go_wp2_with (go_at_call 129; refine (afloat_calls _ _).mono ?_; rintro e w' ⟨rfl, rfl⟩; rw [hd])
  refine (placeR_calls s p _ _ _ hcb.out (H1.out.below HB3.out) (H2.out.below HB3.out)).mono ?_
  rintro e w4 ⟨rfl, hb4⟩
  have HB4 := Lib.hid (bl_step HB3.out hb4)
  have HL4 := Lib.hid (HL3.out.below hb4)
  clear hb4 HL3 GP3 a0 a1 a2 a3 d0 d1 d2 d3 d4 d5 d6 l0 l1 lp p0 p1 hd
  cases hpk : placeOk s p with
  | false =>
    have HE : Hid (er = 20) := by unfold Hid; rw [HE1.out, hpk]; rfl
    go_wp2_with fail
    exact bodyPost_ret (v := iv er) (by rw [HE.out]; simp [results, Tryz.results79, go_sem]) rfl ⟨rfl, HB4.out⟩
  | true =>
    rw [hpk] at HE1
    by_cases hh : 0 ≤ h ∧ h ≤ 1000000
    rotate_left
    · have HE : Hid (er = 1) := by unfold Hid; rw [HE1.out]; simp [hh]
      have hi : inB h 0 1000000 = false := inB_false hh
      clear hh
      go_wp2_with (go_at_call 122; refine (hourR_calls _ _).mono ?_; rintro e w' ⟨rfl, rfl⟩; rw [hi])
      exact bodyPost_ret (v := iv er) (by rw [HE.out]; simp [results, Tryz.results79, go_sem]) rfl ⟨rfl, HB4.out⟩
    have hi : inB h 0 1000000 = true := inB_true hh
    have HE2 : Hid (er = if h < x.hl ∨ x.hl + 200 < h then 21 else 0) := by unfold Hid; rw [HE1.out]; simp [hh]
    obtain ⟨hh1, hh2⟩ := hh
    obtain ⟨⟨a0, a1, a2, a3⟩, ⟨d0, d1, d2, d3, d4, d5, d6⟩, l0, l1⟩ := HL4.out.cells
    clear HE1
    by_cases q1 : h < x.hl
    · have HE : Hid (er = 21) := by unfold Hid; rw [HE2.out, if_pos (.inl q1)]
      go_wp2_with (go_at_call 122; refine (hourR_calls _ _).mono ?_; rintro e w' ⟨rfl, rfl⟩; rw [hi])
      exact bodyPost_ret (v := iv er) (by rw [HE.out]; simp [results, Tryz.results79, go_sem]) rfl ⟨rfl, HB4.out⟩
    · by_cases q2 : x.hl + 200 < h
      · have HE : Hid (er = 21) := by unfold Hid; rw [HE2.out, if_pos (.inr q2)]
        go_wp2_with (go_at_call 122; refine (hourR_calls _ _).mono ?_; rintro e w' ⟨rfl, rfl⟩; rw [hi])
        exact bodyPost_ret (v := iv er) (by rw [HE.out]; simp [results, Tryz.results79, go_sem]) rfl ⟨rfl, HB4.out⟩
      · have HE : Hid (er = 0) := by unfold Hid; rw [HE2.out, if_neg (by omega)]
        go_wp2_with (go_at_call 122; refine (hourR_calls _ _).mono ?_; rintro e w' ⟨rfl, rfl⟩; rw [hi])
        exact bodyPost_ret (v := iv er) (by rw [HE.out]; simp [results, Tryz.results79, go_sem]) rfl ⟨rfl, HB4.out⟩
end Go.Proofs.YtjekioabkmijbaaGreatDoor
