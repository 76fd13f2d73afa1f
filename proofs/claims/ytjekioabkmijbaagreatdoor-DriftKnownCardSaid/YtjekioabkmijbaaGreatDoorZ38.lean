/- The law DriftKnown. -/
import Derived.Test.YtjekioabkmijbaaGreatDoorZ36
import Derived.Test.YtjekioabkmijbaaGreatDoorZ37
set_option linter.unusedVariables false
set_option linter.unusedSimpArgs false
namespace Go.Proofs.YtjekioabkmijbaaGreatDoor
open Go.RowKit
theorem between_snoc {l : List DWind} {a b : Int} {k : Nat} {x : DWind} (h : l[k]? = some x) : between (l.take (k + 1)) a b = (between (l.take k) a b || (decide (min a b < x.kn) && decide (x.kn ≤ max a b))) := by
  rw [any_take l x k h]; unfold between; simp
theorem known_touch {s : DSea} {l : List DWind} {known tk f hour : Int} {x : DLoss} (h : between l known tk = false) : touchL s l known tk f x hour = [] := by
  unfold touchL
  split
  · rw [counting_between h, Nat.xor_self]; exact places_zero
  · rfl
theorem known_reach {s : DSea} {l : List DWind} {more : DWind} {known f hour : Int} {x : DLoss} (h0 : errAsk s l x f none hour = 0) (h1 : errAppend l more = 0) (h : known < more.kn) :
    errAsk s (l ++ [more]) x f none hour = 0 ∧ reachL s (l ++ [more]) known f x hour = reachL s l known f x hour := by
  unfold errAppend at h1
  obtain ⟨h2, h3⟩ := orE_zero h1
  have h4 := errAsk_snoc (p := none) h0 h2 h3
  refine ⟨h4, ?_⟩
  unfold reachL
  rw [if_pos h4, if_pos h0, counting_snoc h]
set_option maxHeartbeats 4000000 in
set_option maxRecDepth 20000 in
theorem known_calls (s : DSea) (l : List DWind) (more : DWind) (known tk : Int) (x : DLoss) (f hour : Int) (vh vt vl : Value) (w : World) (hE : Env w) (hf : 0 ≤ f ∧ f ≤ 255) (h1 : Sl intCs 1 w vh s.hts) (h2 : Sl DTide.cs 2 w vt s.tds) (h3 : Sl DWind.cs 9 w vl l) :
    Calls Tryz.prog 5 #[.agg #[iv s.cells, iv s.bands, vh, vt], vl, windV more, iv known, iv tk, lossV x, .int .u8 f, iv hour] w fun e w' => LawTrue w e w' := by
  obtain ⟨A1, k1, rfl, hk1, hlk1⟩ := h1.open_
  obtain ⟨A2, k2, rfl, hk2, hlk2⟩ := h2.open_
  obtain ⟨A3, k3, rfl, hc3, hl3⟩ := h3.open_
  have HS1 := Lib.hid h1
  have HS2 := Lib.hid h2
  have HS3 := Lib.hid h3
  have HEN := Lib.hid hE
  clear h1 h2 h3 hE
  go_enter Tryz.func5, Tryz.ntmps5
  go_wp2_with fail
  refine calls_abs (fun W hW => ?_)
  have hB : Below w.heap.size w W := by rw [hW]; exact bl_alloc (bl_alloc (bl_alloc (Below.refl _ _) _) _) _
  have hS : Hid (Seas s l w.heap.size A1 k1 A2 k2 A3 k3 W) := ⟨by rw [hW]; exact blk_alloc (blk_alloc (blk_new _ _) _) _, HS1.out.below hB, HS2.out.below hB, HS3.out.below hB⟩
  have g1 : Hid (W.heap[w.heap.size + 1]? = some (.cells (windA more) 53 (0, 0))) := by unfold Hid; rw [hW]; exact blk_alloc (blk_at _ (by simp)) _
  have g2 : Hid (W.heap[w.heap.size + 1 + 1]? = some (.cells (lossA x) 30 (0, 0))) := by unfold Hid; rw [hW]; exact blk_at _ (by simp)
  clear hW HS1 HS2 HS3
  obtain ⟨b0, hb0⟩ : ∃ q, q = w.heap.size := ⟨_, rfl⟩
  obtain ⟨b1, hb1⟩ : ∃ q, q = w.heap.size + 1 := ⟨_, rfl⟩
  obtain ⟨b2, hb2⟩ : ∃ q, q = w.heap.size + 1 + 1 := ⟨_, rfl⟩
  have hB' : Hid (Below w.heap.size w W) := hB
  rw [← hb2] at g2 ⊢
  rw [← hb1] at g1 ⊢
  rw [← hb0] at hS ⊢
  clear hB hb0 hb1 hb2
  refine (small_calls s l _ _ _ W hS.out.2.1 hS.out.2.2.1 hS.out.2.2.2).mono ?_
  rintro e w1 ⟨⟨b, rfl⟩, hb1⟩
  have HB1 := Lib.hid (bl_step hB'.out hb1)
  have HG1 := Lib.hid (hS.out.below hb1)
  have G1 := Lib.hid (blk_below g1.out hb1)
  have G2 := Lib.hid (blk_below g2.out hb1)
  clear hb1 g1 g2 hS hB'
  cases b with
  | false =>
    go_wp2_with fail
    refine (drifting_calls _ (HEN.out.below HB1.out)).mono ?_
    rintro e w2 ⟨rfl, hb2⟩
    have HB2 := Lib.hid (bl_step HB1.out hb2)
    clear hb2
    go_wp2_with fail
    exact bodyPost_ret (v := .bool true) (by simp [results, Tryz.results5, go_sem]) rfl ⟨rfl, HB2.out⟩
  | true =>
    obtain ⟨d0, d1, d2, d3, d4, d5, d6⟩ := loss_cells G2.out
    have l2 := blk_lt G2.out
    go_wp2_with fail
    refine (near_calls x hour _).mono ?_
    rintro e w2 ⟨⟨b, rfl⟩, hb2⟩
    have HB2 := Lib.hid (bl_step HB1.out hb2)
    have HG2 := Lib.hid (HG1.out.below hb2)
    have G1' := Lib.hid (blk_below G1.out hb2)
    have G2' := Lib.hid (blk_below G2.out hb2)
    clear hb2 HB1 HG1 G1 G2 d0 d1 d2 d3 d4 d5 d6 l2
    cases b with
    | false =>
      go_wp2_with fail
      refine (drifting_calls _ (HEN.out.below HB2.out)).mono ?_
      rintro e w3 ⟨rfl, hb3⟩
      have HB3 := Lib.hid (bl_step HB2.out hb3)
      clear hb3
      go_wp2_with fail
      exact bodyPost_ret (v := .bool true) (by simp [results, Tryz.results5, go_sem]) rfl ⟨rfl, HB3.out⟩
    | true =>
      obtain ⟨⟨s0, s1, s2, s3⟩, ls⟩ := HG2.out.cells
      obtain ⟨d0, d1, d2, d3, d4, d5, d6⟩ := loss_cells G2'.out
      have l2 := blk_lt G2'.out
      go_wp2_with fail
      refine (reach_calls s l x known f hour _ _ _ _ hf HG2.out.2.1 HG2.out.2.2.1 HG2.out.2.2.2).mono ?_
      rintro e w3 ⟨v, rfl, ho, hb3⟩
      obtain ⟨B1, j1, rfl⟩ := ho.slice
      have HO1 := Lib.hid ho
      have HB3 := Lib.hid (bl_step HB2.out hb3)
      have HG3 := Lib.hid (HG2.out.below hb3)
      have G13 := Lib.hid (blk_below G1'.out hb3)
      have G23 := Lib.hid (blk_below G2'.out hb3)
      clear hb3 ho HB2 HG2 G1' G2' d0 d1 d2 d3 d4 d5 d6 l2 s0 s1 s2 s3 ls
      obtain ⟨ea, hea⟩ : ∃ q, q = errAsk s l x f none hour := ⟨_, rfl⟩
      rw [← hea]
      have HEA := Lib.hid hea
      clear hea
      obtain ⟨c0, c1, c2, c3, c4, c5, c6, c7, c8⟩ := wind_cells G13.out
      have l1 := blk_lt G13.out
      go_wp2_with fail
      refine (append_calls l more _ _ HG3.out.2.2.2).mono ?_
      rintro e w4 ⟨v, rfl, ho, hb4⟩
      obtain ⟨B2, j2, rfl⟩ := ho.slice
      have HO2 := Lib.hid ho
      have HO1' := Lib.hid (HO1.out.below hb4)
      have HB4 := Lib.hid (bl_step HB3.out hb4)
      have HG4 := Lib.hid (HG3.out.below hb4)
      have G14 := Lib.hid (blk_below G13.out hb4)
      have G24 := Lib.hid (blk_below G23.out hb4)
      clear hb4 ho HB3 HG3 G13 G23 c0 c1 c2 c3 c4 c5 c6 c7 c8 l1 HO1
      obtain ⟨ef, hef⟩ : ∃ q, q = errAppend l more := ⟨_, rfl⟩
      rw [← hef]
      have HEF := Lib.hid hef
      clear hef
      by_cases q1 : ea = 0
      rotate_left
      · have q1' : (ea == 0) = false := by simp [q1]
        clear q1
        obtain ⟨⟨u0, u1, u2, u3⟩, u4⟩ := HG4.out.cells
        obtain ⟨t0, t1, t2, t3, t4, t5, t6⟩ := loss_cells G24.out
        have t7 := blk_lt G24.out
        go_wp2_with fail
        refine (touched_calls s l x known tk f hour _ _ _ _ hf HG4.out.2.1 HG4.out.2.2.1 HG4.out.2.2.2).mono ?_
        rintro e w7 ⟨v, rfl, ho, hb7⟩
        obtain ⟨B3, j3, rfl⟩ := ho.slice
        rw [← HEA.out]
        have HB7 := Lib.hid (bl_step HB4.out hb7)
        have HG7 := Lib.hid (HG4.out.below hb7)
        clear hb7 ho t0 t1 t2 t3 t4 t5 t6 t7 u0 u1 u2 u3 u4
        go_wp2_with fail
        go_loopg [25, 26] l.length (fun n b i wr => ∃ k : Nat, k ≤ l.length ∧ n = l.length - k ∧ b = .bool (between (l.take k) known tk) ∧ i = .int .i64 k ∧ Hid (wr = w7))
        case atStart => exact ⟨0, by omega, by omega, by simp [between], rfl, rfl⟩
        case round =>
          obtain ⟨k, hk, hn, rfl, rfl, HV⟩ := hrel
          have hv := HV.out
          subst hv
          by_cases hlt : k < l.length
          · have hx : l[k]? = some l[k] := List.getElem?_eq_getElem hlt
            obtain ⟨y, hye⟩ : ∃ y, y = l[k] := ⟨_, rfl⟩
            rw [← hye] at hx
            clear hye
            obtain ⟨b, o, rfl, c0, c1, c2, c3, c4, c5, c6, c7, c8⟩ := HG7.out.2.2.2.wind k _ hx
            have HT := Lib.hid (between_snoc (a := known) (b := tk) hx)
            obtain ⟨t, ht⟩ : ∃ t, t = between (l.take k) known tk := ⟨_, rfl⟩
            rw [← ht] at HT ⊢
            have l1 : (k : Int) < (l.length : Int) := by omega
            clear hx ht
            cases t
            all_goals (go_wp2_with fail)
            all_goals (try (go_roundg (l.length - (k + 1))))
            all_goals first
              | (case measure => omega)
              | (case rel => exact ⟨k + 1, by omega, rfl, by rw [HT.out]; simp [*] <;> (intros; omega), by go_num, rfl⟩)
              | skip
          · obtain rfl : k = l.length := by omega
            rw [List.take_length]
            have HBT := Lib.hid (known_touch (s := s) (l := l) (known := known) (tk := tk) (f := f) (hour := hour) (x := x))
            obtain ⟨bt, hbt⟩ : ∃ q, q = between l known tk := ⟨_, rfl⟩
            rw [← hbt] at HBT ⊢
            clear hbt
            cases bt with
            | true =>
              go_wp2_with fail
              refine (drifting_calls _ (HEN.out.below HB7.out)).mono ?_
              rintro e w8 ⟨rfl, hb8⟩
              have HB8 := Lib.hid (bl_step HB7.out hb8)
              clear hb8
              go_wp2_with fail
              exact bodyPost_ret (v := .bool true) (by simp [results, Tryz.results5, go_sem]) rfl ⟨rfl, HB8.out⟩
            | false =>
              have hq : ((touchL s l known tk f x hour).length : Int) = 0 := by rw [HBT.out rfl]; rfl
              go_wp2_with fail
              refine (drifting_calls _ (HEN.out.below HB7.out)).mono ?_
              rintro e w8 ⟨rfl, hb8⟩
              have HB8 := Lib.hid (bl_step HB7.out hb8)
              clear hb8
              go_wp2_with fail
              exact bodyPost_ret (v := .bool true) (by simp [results, Tryz.results5, go_sem]) rfl ⟨rfl, HB8.out⟩
      by_cases q2 : ef = 0
      rotate_left
      · have q1' : (ea == 0) = true := by simp [q1]
        have q2' : (ef == 0) = false := by simp [q2]
        clear q1 q2
        obtain ⟨⟨u0, u1, u2, u3⟩, u4⟩ := HG4.out.cells
        obtain ⟨t0, t1, t2, t3, t4, t5, t6⟩ := loss_cells G24.out
        have t7 := blk_lt G24.out
        go_wp2_with fail
        refine (touched_calls s l x known tk f hour _ _ _ _ hf HG4.out.2.1 HG4.out.2.2.1 HG4.out.2.2.2).mono ?_
        rintro e w7 ⟨v, rfl, ho, hb7⟩
        obtain ⟨B3, j3, rfl⟩ := ho.slice
        rw [← HEA.out]
        have HB7 := Lib.hid (bl_step HB4.out hb7)
        have HG7 := Lib.hid (HG4.out.below hb7)
        clear hb7 ho t0 t1 t2 t3 t4 t5 t6 t7 u0 u1 u2 u3 u4
        go_wp2_with fail
        go_loopg [25, 26] l.length (fun n b i wr => ∃ k : Nat, k ≤ l.length ∧ n = l.length - k ∧ b = .bool (between (l.take k) known tk) ∧ i = .int .i64 k ∧ Hid (wr = w7))
        case atStart => exact ⟨0, by omega, by omega, by simp [between], rfl, rfl⟩
        case round =>
          obtain ⟨k, hk, hn, rfl, rfl, HV⟩ := hrel
          have hv := HV.out
          subst hv
          by_cases hlt : k < l.length
          · have hx : l[k]? = some l[k] := List.getElem?_eq_getElem hlt
            obtain ⟨y, hye⟩ : ∃ y, y = l[k] := ⟨_, rfl⟩
            rw [← hye] at hx
            clear hye
            obtain ⟨b, o, rfl, c0, c1, c2, c3, c4, c5, c6, c7, c8⟩ := HG7.out.2.2.2.wind k _ hx
            have HT := Lib.hid (between_snoc (a := known) (b := tk) hx)
            obtain ⟨t, ht⟩ : ∃ t, t = between (l.take k) known tk := ⟨_, rfl⟩
            rw [← ht] at HT ⊢
            have l1 : (k : Int) < (l.length : Int) := by omega
            clear hx ht
            cases t
            all_goals (go_wp2_with fail)
            all_goals (try (go_roundg (l.length - (k + 1))))
            all_goals first
              | (case measure => omega)
              | (case rel => exact ⟨k + 1, by omega, rfl, by rw [HT.out]; simp [*] <;> (intros; omega), by go_num, rfl⟩)
              | skip
          · obtain rfl : k = l.length := by omega
            rw [List.take_length]
            have HBT := Lib.hid (known_touch (s := s) (l := l) (known := known) (tk := tk) (f := f) (hour := hour) (x := x))
            obtain ⟨bt, hbt⟩ : ∃ q, q = between l known tk := ⟨_, rfl⟩
            rw [← hbt] at HBT ⊢
            clear hbt
            cases bt with
            | true =>
              go_wp2_with fail
              refine (drifting_calls _ (HEN.out.below HB7.out)).mono ?_
              rintro e w8 ⟨rfl, hb8⟩
              have HB8 := Lib.hid (bl_step HB7.out hb8)
              clear hb8
              go_wp2_with fail
              exact bodyPost_ret (v := .bool true) (by simp [results, Tryz.results5, go_sem]) rfl ⟨rfl, HB8.out⟩
            | false =>
              have hq : ((touchL s l known tk f x hour).length : Int) = 0 := by rw [HBT.out rfl]; rfl
              go_wp2_with fail
              refine (drifting_calls _ (HEN.out.below HB7.out)).mono ?_
              rintro e w8 ⟨rfl, hb8⟩
              have HB8 := Lib.hid (bl_step HB7.out hb8)
              clear hb8
              go_wp2_with fail
              exact bodyPost_ret (v := .bool true) (by simp [results, Tryz.results5, go_sem]) rfl ⟨rfl, HB8.out⟩
      by_cases q3 : known < more.kn
      rotate_left
      · have q1' : (ea == 0) = true := by simp [q1]
        have q2' : (ef == 0) = true := by simp [q2]
        have q3' : ¬ known < more.kn := q3
        obtain ⟨c0, c1, c2, c3, c4, c5, c6, c7, c8⟩ := wind_cells G14.out
        have l1 := blk_lt G14.out
        clear q1 q2
        obtain ⟨⟨u0, u1, u2, u3⟩, u4⟩ := HG4.out.cells
        obtain ⟨t0, t1, t2, t3, t4, t5, t6⟩ := loss_cells G24.out
        have t7 := blk_lt G24.out
        go_wp2_with fail
        refine (touched_calls s l x known tk f hour _ _ _ _ hf HG4.out.2.1 HG4.out.2.2.1 HG4.out.2.2.2).mono ?_
        rintro e w7 ⟨v, rfl, ho, hb7⟩
        obtain ⟨B3, j3, rfl⟩ := ho.slice
        rw [← HEA.out]
        have HB7 := Lib.hid (bl_step HB4.out hb7)
        have HG7 := Lib.hid (HG4.out.below hb7)
        clear hb7 ho t0 t1 t2 t3 t4 t5 t6 t7 u0 u1 u2 u3 u4
        go_wp2_with fail
        go_loopg [25, 26] l.length (fun n b i wr => ∃ k : Nat, k ≤ l.length ∧ n = l.length - k ∧ b = .bool (between (l.take k) known tk) ∧ i = .int .i64 k ∧ Hid (wr = w7))
        case atStart => exact ⟨0, by omega, by omega, by simp [between], rfl, rfl⟩
        case round =>
          obtain ⟨k, hk, hn, rfl, rfl, HV⟩ := hrel
          have hv := HV.out
          subst hv
          by_cases hlt : k < l.length
          · have hx : l[k]? = some l[k] := List.getElem?_eq_getElem hlt
            obtain ⟨y, hye⟩ : ∃ y, y = l[k] := ⟨_, rfl⟩
            rw [← hye] at hx
            clear hye
            obtain ⟨b, o, rfl, c0, c1, c2, c3, c4, c5, c6, c7, c8⟩ := HG7.out.2.2.2.wind k _ hx
            have HT := Lib.hid (between_snoc (a := known) (b := tk) hx)
            obtain ⟨t, ht⟩ : ∃ t, t = between (l.take k) known tk := ⟨_, rfl⟩
            rw [← ht] at HT ⊢
            have l1 : (k : Int) < (l.length : Int) := by omega
            clear hx ht
            cases t
            all_goals (go_wp2_with fail)
            all_goals (try (go_roundg (l.length - (k + 1))))
            all_goals first
              | (case measure => omega)
              | (case rel => exact ⟨k + 1, by omega, rfl, by rw [HT.out]; simp [*] <;> (intros; omega), by go_num, rfl⟩)
              | skip
          · obtain rfl : k = l.length := by omega
            rw [List.take_length]
            have HBT := Lib.hid (known_touch (s := s) (l := l) (known := known) (tk := tk) (f := f) (hour := hour) (x := x))
            obtain ⟨bt, hbt⟩ : ∃ q, q = between l known tk := ⟨_, rfl⟩
            rw [← hbt] at HBT ⊢
            clear hbt
            cases bt with
            | true =>
              go_wp2_with fail
              refine (drifting_calls _ (HEN.out.below HB7.out)).mono ?_
              rintro e w8 ⟨rfl, hb8⟩
              have HB8 := Lib.hid (bl_step HB7.out hb8)
              clear hb8
              go_wp2_with fail
              exact bodyPost_ret (v := .bool true) (by simp [results, Tryz.results5, go_sem]) rfl ⟨rfl, HB8.out⟩
            | false =>
              have hq : ((touchL s l known tk f x hour).length : Int) = 0 := by rw [HBT.out rfl]; rfl
              go_wp2_with fail
              refine (drifting_calls _ (HEN.out.below HB7.out)).mono ?_
              rintro e w8 ⟨rfl, hb8⟩
              have HB8 := Lib.hid (bl_step HB7.out hb8)
              clear hb8
              go_wp2_with fail
              exact bodyPost_ret (v := .bool true) (by simp [results, Tryz.results5, go_sem]) rfl ⟨rfl, HB8.out⟩
      have hkr := known_reach (HEA.out.symm.trans q1) (HEF.out.symm.trans q2) q3
      have HKR := Lib.hid hkr
      have q1' : (ea == 0) = true := by simp [q1]
      have q2' : (ef == 0) = true := by simp [q2]
      have HAP : Hid (appendL l more = l ++ [more]) := if_pos (HEF.out.symm.trans q2)
      have hln : l.length ≤ 200 := log_len (orE_zero (HEF.out.symm.trans q2)).1
      have HSM : Hid (Sl DWind.cs 9 w4 (.slice B2 (appendL l more).length j2) (l ++ [more])) := by
        have := HO2.out
        rw [HAP.out] at this
        unfold Hid
        rw [HAP.out]
        exact this.sl (fun _ => rfl) (by simp; omega)
      obtain ⟨c0, c1, c2, c3, c4, c5, c6, c7, c8⟩ := wind_cells G14.out
      have l1 := blk_lt G14.out
      obtain ⟨⟨u0, u1, u2, u3⟩, u4⟩ := HG4.out.cells
      obtain ⟨t0, t1, t2, t3, t4, t5, t6⟩ := loss_cells G24.out
      have t7 := blk_lt G24.out
      clear q1 q2 hkr
      go_wp2_with fail
      refine (reach_calls s (l ++ [more]) x known f hour _ _ _ _ hf HG4.out.2.1 HG4.out.2.2.1 HSM.out).mono ?_
      rintro e w5 ⟨v, rfl, ho, hb5⟩
      rw [HKR.out.1]
      rw [HKR.out.2] at ho
      obtain ⟨B4, j4, rfl⟩ := ho.slice
      have HO4 := Lib.hid ho
      have HO15 := Lib.hid (HO1'.out.below hb5)
      have HB5 := Lib.hid (bl_step HB4.out hb5)
      have HG5 := Lib.hid (HG4.out.below hb5)
      have G25 := Lib.hid (blk_below G24.out hb5)
      clear hb5 ho c0 c1 c2 c3 c4 c5 c6 c7 c8 l1 u0 u1 u2 u3 u4 t0 t1 t2 t3 t4 t5 t6 t7 HSM HAP
      have hrl : (reachL s l known f x hour).length ≤ 17592186044416 := by
        unfold reachL; split
        · have := places_len (reachM s (counting l known) f x hour); omega
        · simp
      have HR1 := Lib.hid (HO15.out.sl (cs := DPlace.cs) (k := 2) (fun _ => rfl) hrl)
      have HR2 := Lib.hid (HO4.out.sl (cs := DPlace.cs) (k := 2) (fun _ => rfl) hrl)
      go_wp2_with fail
      refine (samePlaces_calls _ _ _ _ _ HR1.out HR2.out).mono ?_
      rintro e w6 ⟨rfl, hb6⟩
      rw [decide_eq_true rfl]
      have HB6 := Lib.hid (bl_step HB5.out hb6)
      have HG6 := Lib.hid (HG5.out.below hb6)
      have G26 := Lib.hid (blk_below G25.out hb6)
      clear hb6
      obtain ⟨⟨u0, u1, u2, u3⟩, u4⟩ := HG6.out.cells
      obtain ⟨t0, t1, t2, t3, t4, t5, t6⟩ := loss_cells G26.out
      have t7 := blk_lt G26.out
      go_wp2_with fail
      refine (touched_calls s l x known tk f hour _ _ _ _ hf HG6.out.2.1 HG6.out.2.2.1 HG6.out.2.2.2).mono ?_
      rintro e w7 ⟨v, rfl, ho, hb7⟩
      obtain ⟨B3, j3, rfl⟩ := ho.slice
      rw [← HEA.out]
      have HB7 := Lib.hid (bl_step HB6.out hb7)
      have HG7 := Lib.hid (HG6.out.below hb7)
      clear hb7 ho t0 t1 t2 t3 t4 t5 t6 t7 u0 u1 u2 u3 u4
      go_wp2_with fail
      go_loopg [25, 26] l.length (fun n b i wr => ∃ k : Nat, k ≤ l.length ∧ n = l.length - k ∧ b = .bool (between (l.take k) known tk) ∧ i = .int .i64 k ∧ Hid (wr = w7))
      case atStart => exact ⟨0, by omega, by omega, by simp [between], rfl, rfl⟩
      case round =>
        obtain ⟨k, hk, hn, rfl, rfl, HV⟩ := hrel
        have hv := HV.out
        subst hv
        by_cases hlt : k < l.length
        · have hx : l[k]? = some l[k] := List.getElem?_eq_getElem hlt
          obtain ⟨y, hye⟩ : ∃ y, y = l[k] := ⟨_, rfl⟩
          rw [← hye] at hx
          clear hye
          obtain ⟨b, o, rfl, c0, c1, c2, c3, c4, c5, c6, c7, c8⟩ := HG7.out.2.2.2.wind k _ hx
          have HT := Lib.hid (between_snoc (a := known) (b := tk) hx)
          obtain ⟨t, ht⟩ : ∃ t, t = between (l.take k) known tk := ⟨_, rfl⟩
          rw [← ht] at HT ⊢
          have l1 : (k : Int) < (l.length : Int) := by omega
          clear hx ht
          cases t
          all_goals (go_wp2_with fail)
          all_goals (try (go_roundg (l.length - (k + 1))))
          all_goals first
            | (case measure => omega)
            | (case rel => exact ⟨k + 1, by omega, rfl, by rw [HT.out]; simp [*] <;> (intros; omega), by go_num, rfl⟩)
            | skip
        · obtain rfl : k = l.length := by omega
          rw [List.take_length]
          have HBT := Lib.hid (known_touch (s := s) (l := l) (known := known) (tk := tk) (f := f) (hour := hour) (x := x))
          obtain ⟨bt, hbt⟩ : ∃ q, q = between l known tk := ⟨_, rfl⟩
          rw [← hbt] at HBT ⊢
          clear hbt
          cases bt with
          | true =>
            go_wp2_with fail
            refine (drifting_calls _ (HEN.out.below HB7.out)).mono ?_
            rintro e w8 ⟨rfl, hb8⟩
            have HB8 := Lib.hid (bl_step HB7.out hb8)
            clear hb8
            go_wp2_with fail
            exact bodyPost_ret (v := .bool true) (by simp [results, Tryz.results5, go_sem]) rfl ⟨rfl, HB8.out⟩
          | false =>
            have hq : ((touchL s l known tk f x hour).length : Int) = 0 := by rw [HBT.out rfl]; rfl
            go_wp2_with fail
            refine (drifting_calls _ (HEN.out.below HB7.out)).mono ?_
            rintro e w8 ⟨rfl, hb8⟩
            have HB8 := Lib.hid (bl_step HB7.out hb8)
            clear hb8
            go_wp2_with fail
            exact bodyPost_ret (v := .bool true) (by simp [results, Tryz.results5, go_sem]) rfl ⟨rfl, HB8.out⟩
end Go.Proofs.YtjekioabkmijbaaGreatDoor
