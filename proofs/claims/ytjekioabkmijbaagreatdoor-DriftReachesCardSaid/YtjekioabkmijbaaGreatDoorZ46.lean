/- The reference's counting. -/
import Derived.Test.YtjekioabkmijbaaGreatDoorZ42
import Derived.Test.YtjekioabkmijbaaGreatDoorZ37
import Derived.Test.YtjekioabkmijbaaGreatDoorZ44
import Derived.Test.YtjekioabkmijbaaGreatDoorZ45
import Derived.Test.YtjekioabkmijbaaGreatDoorZ19
import Derived.Test.YtjekioabkmijbaaGreatDoorZ23
import Derived.Test.YtjekioabkmijbaaGreatDoorZ41
set_option linter.unusedVariables false
set_option linter.unusedSimpArgs false
namespace Go.Proofs.YtjekioabkmijbaaGreatDoor
open Go.RowKit
def voidsR (known : Int) (x y : DWind) : Bool := y.vo == x.id && decide (y.kn ≤ known)
def countsR (l : List DWind) (known : Int) (x : DWind) : Bool := (x.vo == 0 && decide (x.kn ≤ known)) && !(l.any (voidsR known x))
theorem countsR_eq {l : List DWind} {known : Int} {x : DWind} (h : windOk x = true) : countsR l known x = counts l known x := by
  unfold countsR counts
  have hid : x.id ≠ 0 := by
    have := windOk_bounds h; omega
  congr 2
  congr 1
  funext y
  unfold voidsR
  by_cases hv : y.vo = x.id
  · have : (y.vo != 0) = true := by simp [bne, hv, hid]
    rw [this, hv]; simp
  · have : (y.vo == x.id) = false := by simp [hv]
    rw [this]; simp
theorem countingR_eq {l : List DWind} {known : Int} (h : winds l) : l.filter (countsR l known) = counting l known := List.filter_congr fun x hx => countsR_eq (h x hx)
theorem void_ways (known : Int) (x y : DWind) (t : Bool) : (t = false ∧ (t && !(voidsR known x y)) = false) ∨ (t = true ∧ (y.vo == x.id) = false ∧ (t && !(voidsR known x y)) = true) ∨ (t = true ∧ (y.vo == x.id) = true ∧ ¬ y.kn ≤ known ∧ (t && !(voidsR known x y)) = true) ∨ (t = true ∧ (y.vo == x.id) = true ∧ y.kn ≤ known ∧ (t && !(voidsR known x y)) = false) := by
  unfold voidsR
  by_cases h : y.kn ≤ known
  · cases t <;> cases (y.vo == x.id) <;> simp [h]
  · cases t <;> cases (y.vo == x.id) <;> simp [h]
theorem void_step {Q : Bool} {l : List DWind} {known : Int} {x y : DWind} {j : Nat} (h : l[j]? = some y) : (Q && !((l.take (j + 1)).any (voidsR known x))) = ((Q && !((l.take j).any (voidsR known x))) && !(voidsR known x y)) := by
  rw [any_take l y j h, List.any_append]
  simp only [List.any_cons, List.any_nil, Bool.or_false]
  cases Q <;> cases (l.take j).any (voidsR known x) <;> cases voidsR known x y <;> rfl
theorem filter_snoc {p : DWind → Bool} {l : List DWind} {k : Nat} {x : DWind} (h : l[k]? = some x) : (l.take (k + 1)).filter p = (l.take k).filter p ++ (if p x then [x] else []) := by
  rw [any_take l x k h, List.filter_append]; congr 1
  cases hp : p x <;> simp [hp]
theorem wind_at {w : World} {b o n c : Nat} {xs : List DWind} {i : Nat} {x : DWind} (h : Sl DWind.cs 9 w (.slice (some ⟨b, o, none⟩) n c) xs) (hi : xs[i]? = some x) : w.cell? ⟨b, o + i * 9, none⟩ = some (iv x.id) ∧ w.cell? ⟨b, o + i * 9 + 1, none⟩ = some (iv x.kn) ∧ w.cell? ⟨b, o + i * 9 + 2, none⟩ = some (iv x.fr) ∧ w.cell? ⟨b, o + i * 9 + 3, none⟩ = some (iv x.un) ∧ w.cell? ⟨b, o + i * 9 + 4, none⟩ = some (iv x.al) ∧ w.cell? ⟨b, o + i * 9 + 5, none⟩ = some (iv x.ah) ∧ w.cell? ⟨b, o + i * 9 + 6, none⟩ = some (iv x.sl) ∧ w.cell? ⟨b, o + i * 9 + 7, none⟩ = some (iv x.sh) ∧ w.cell? ⟨b, o + i * 9 + 8, none⟩ = some (iv x.vo) := by
  obtain ⟨b1, o1, e, r⟩ := h.wind i x hi
  cases e; exact r
set_option maxHeartbeats 8000000 in
set_option maxRecDepth 20000 in
theorem countingR_calls (l : List DWind) (v : Value) (known : Int) (w : World) (hl : l.length ≤ 1000000) (hs : Sl DWind.cs 9 w v l) :
    Calls Tryz.prog 81 #[v, iv known] w fun e w' => ∃ v', e = .returned v' ∧ Own DWind.cs 9 53 w.heap.size w' v' (l.filter (countsR l known)) ∧ Below w.heap.size w w' := by
  obtain ⟨A, c, rfl, hc, _⟩ := hs.open_
  have HS := Lib.hid hs
  clear hs
  go_enter Tryz.func81, Tryz.ntmps81
  go_wp2_with fail
  go_loopg [5, 6] l.length (fun n u i wr => ∃ k : Nat, k ≤ l.length ∧ n = l.length - k ∧ i = .int .i64 k ∧ Hid (Own DWind.cs 9 53 w.heap.size wr u ((l.take k).filter (countsR l known))) ∧ Hid (Below w.heap.size w wr))
  case atStart => exact ⟨0, by omega, by omega, rfl, Own.nil _ _, Below.refl _ _⟩
  case round =>
    obtain ⟨k, hk, hn, rfl, HO, HB⟩ := hrel
    by_cases hlt : k < l.length
    · have hx : l[k]? = some l[k] := List.getElem?_eq_getElem hlt
      obtain ⟨x, hxe⟩ : ∃ x, x = l[k] := ⟨_, rfl⟩
      rw [← hxe] at hx
      clear hxe
      obtain ⟨b, o, rfl, c0, c1, c2, c3, c4, c5, c6, c7, c8⟩ := (HS.out.below HB.out).wind k _ hx
      have lb := World.block_lt_of_cell? _ _ c0
      have HX := Lib.hid hx
      have HT := Lib.hid (filter_snoc (p := countsR l known) hx)
      have l1 : (k : Int) < (l.length : Int) := by omega
      obtain ⟨pre, hpre⟩ : ∃ q, q = (l.take k).filter (countsR l known) := ⟨_, rfl⟩
      have hpl : pre.length ≤ 1000000 := by
        rw [hpre]
        have h1 := List.length_filter_le (countsR l known) (l.take k)
        have h2 := List.length_take_le k l
        omega
      rw [← hpre] at HO HT



      clear hx hpre
      -- ROUND
      cases hv0 : x.vo == 0 with
      | false =>
        have HCQ : Hid (countsR l known x = (false && !(l.any (voidsR known x)))) := by unfold Hid countsR; rw [hv0]; rfl
        go_wp2_with fail
        go_loopg [7, 8] l.length (fun n t i wr2 => ∃ j : Nat, j ≤ l.length ∧ n = l.length - j ∧ i = .int .i64 j ∧ t = .bool (false && !((l.take j).any (voidsR known x))) ∧ Hid (Below wr.heap.size wr wr2))
        case atStart => exact ⟨0, by omega, by omega, rfl, rfl, Below.refl _ _⟩
        case round =>
          clear c0 c1 c2 c3 c4 c5 c6 c7 c8 lb
          obtain ⟨j, hj, hnj, rfl, rfl, HBI⟩ := hrel
          obtain ⟨t, ht⟩ : ∃ q, q = (false && !((l.take j).any (voidsR known x))) := ⟨_, rfl⟩
          rw [← ht]
          have HTT := Lib.hid ht
          clear ht
          obtain ⟨c0, c1, c2, c3, c4, c5, c6, c7, c8⟩ := wind_at ((HS.out.below HB.out).below HBI.out) HX.out
          have lb := World.block_lt_of_cell? _ _ c0
          by_cases hlj : j < l.length
          · have hy : l[j]? = some l[j] := List.getElem?_eq_getElem hlj
            obtain ⟨y, hye⟩ : ∃ y, y = l[j] := ⟨_, rfl⟩
            rw [← hye] at hy
            clear hye
            obtain ⟨e0, e1, e2, e3, e4, e5, e6, e7, e8⟩ := wind_at ((HS.out.below HB.out).below HBI.out) hy
            have l2 : (j : Int) < (l.length : Int) := by omega
            have hstep : (false && !((l.take (j + 1)).any (voidsR known x))) = (t && !(voidsR known x y)) := by
              rw [HTT.out]; exact void_step hy
            have hw := void_ways known x y t
            obtain ⟨tv, htv⟩ : ∃ q, q = (t && !(voidsR known x y)) := ⟨_, rfl⟩
            rw [← htv] at hstep hw
            have HST := Lib.hid hstep
            clear hstep htv hy
            go_wp2_with fail
            rcases hw with ⟨rfl, rfl⟩ | ⟨rfl, w1, rfl⟩ | ⟨rfl, w1, w2, rfl⟩ | ⟨rfl, w1, w2, rfl⟩
            all_goals first
              | (exfalso; have hh := HTT.out; simp only [Bool.false_and, Bool.true_and, reduceCtorEq] at hh; done)
              | (go_quiet (fail)
                 go_wp2_with fail
                 go_roundg (l.length - (j + 1))
                 case measure => omega
                 case rel => exact ⟨j + 1, by omega, rfl, by go_num, by rw [HST.out] <;> first | rfl | (simp; done) | (simp; omega), bl_drewN HBI.out _⟩)
          · obtain rfl : j = l.length := by omega
            rw [List.take_length] at HTT
            have HTC : Hid (countsR l known x = t) := by unfold Hid; rw [HTT.out, HCQ.out]
            have HBB := Lib.hid (bl_step HB.out HBI.out)
            have HOO := Lib.hid (HO.out.below HBI.out)
            cases t with
            | false =>
              rw [HTC.out] at HT
              go_wp2_with fail
              go_roundg (l.length - (k + 1))
              case measure => omega
              case rel => exact ⟨k + 1, by omega, rfl, by go_num, by unfold Hid; rw [HT.out]; simpa using HOO.out, HBB.out⟩
            | true => exfalso; have hh := HTT.out; simp at hh
      | true =>
        by_cases hkn : x.kn ≤ known
        · have HCQ : Hid (countsR l known x = (true && !(l.any (voidsR known x)))) := by unfold Hid countsR; rw [hv0, decide_eq_true hkn]; rfl
          go_wp2_with fail
          go_loopg [7, 8] l.length (fun n t i wr2 => ∃ j : Nat, j ≤ l.length ∧ n = l.length - j ∧ i = .int .i64 j ∧ t = .bool (true && !((l.take j).any (voidsR known x))) ∧ Hid (Below wr.heap.size wr wr2))
          case atStart => exact ⟨0, by omega, by omega, rfl, rfl, Below.refl _ _⟩
          case round =>
            clear c0 c1 c2 c3 c4 c5 c6 c7 c8 lb
            obtain ⟨j, hj, hnj, rfl, rfl, HBI⟩ := hrel
            obtain ⟨t, ht⟩ : ∃ q, q = (true && !((l.take j).any (voidsR known x))) := ⟨_, rfl⟩
            rw [← ht]
            have HTT := Lib.hid ht
            clear ht
            obtain ⟨c0, c1, c2, c3, c4, c5, c6, c7, c8⟩ := wind_at ((HS.out.below HB.out).below HBI.out) HX.out
            have lb := World.block_lt_of_cell? _ _ c0
            by_cases hlj : j < l.length
            · have hy : l[j]? = some l[j] := List.getElem?_eq_getElem hlj
              obtain ⟨y, hye⟩ : ∃ y, y = l[j] := ⟨_, rfl⟩
              rw [← hye] at hy
              clear hye
              obtain ⟨e0, e1, e2, e3, e4, e5, e6, e7, e8⟩ := wind_at ((HS.out.below HB.out).below HBI.out) hy
              have l2 : (j : Int) < (l.length : Int) := by omega
              have hstep : (true && !((l.take (j + 1)).any (voidsR known x))) = (t && !(voidsR known x y)) := by
                rw [HTT.out]; exact void_step hy
              have hw := void_ways known x y t
              obtain ⟨tv, htv⟩ : ∃ q, q = (t && !(voidsR known x y)) := ⟨_, rfl⟩
              rw [← htv] at hstep hw
              have HST := Lib.hid hstep
              clear hstep htv hy
              go_wp2_with fail
              rcases hw with ⟨rfl, rfl⟩ | ⟨rfl, w1, rfl⟩ | ⟨rfl, w1, w2, rfl⟩ | ⟨rfl, w1, w2, rfl⟩
              all_goals first
                | (exfalso; have hh := HTT.out; simp only [Bool.false_and, Bool.true_and, reduceCtorEq] at hh; done)
                | (go_quiet (fail)
                   go_wp2_with fail
                   go_roundg (l.length - (j + 1))
                   case measure => omega
                   case rel => exact ⟨j + 1, by omega, rfl, by go_num, by rw [HST.out] <;> first | rfl | (simp; done) | (simp; omega), bl_drewN HBI.out _⟩)
            · obtain rfl : j = l.length := by omega
              rw [List.take_length] at HTT
              have HTC : Hid (countsR l known x = t) := by unfold Hid; rw [HTT.out, HCQ.out]
              have HBB := Lib.hid (bl_step HB.out HBI.out)
              have HOO := Lib.hid (HO.out.below HBI.out)
              cases t with
              | false =>
                rw [HTC.out] at HT
                go_wp2_with fail
                go_roundg (l.length - (k + 1))
                case measure => omega
                case rel => exact ⟨k + 1, by omega, rfl, by go_num, by unfold Hid; rw [HT.out]; simpa using HOO.out, HBB.out⟩
              | true =>
                rw [HTC.out] at HT
                go_wp2_with (at_builtin; refine wp_push (cs := DWind.cs) (base := w.heap.size) rfl _ _ _ rfl (.agg #[iv 0, iv 0, iv 0, iv 0, iv 0, iv 0, iv 0, iv 0, iv 0]) 72 Tryz.underlying26 info53 rfl (by decide) u5 pre x rfl (HOO.out.alloc _) wr.heap.size 1 1 rfl rfl (0, 0) 53 (blk_new _ _) rfl (wind_cells1 _) (by omega) (by decide) (alloc_ge HBB.out.size _) ?_; intro v' W4 hown' hgrow; have HO4 := Lib.hid hown'; have HB4 : Hid (Below w.heap.size w W4) := bl_push (bl_alloc HBB.out _) (HOO.out.alloc _) hgrow (Nat.le_refl _) (alloc_ge HBB.out.size _); clear hown' hgrow)
                go_roundg (l.length - (k + 1))
                case measure => omega
                case rel => exact ⟨k + 1, by omega, rfl, by go_num, by unfold Hid; rw [HT.out]; exact HO4.out, HB4.out⟩
        · have HCQ : Hid (countsR l known x = (false && !(l.any (voidsR known x)))) := by unfold Hid countsR; rw [hv0, decide_eq_false hkn]; rfl
          go_wp2_with fail
          go_loopg [7, 8] l.length (fun n t i wr2 => ∃ j : Nat, j ≤ l.length ∧ n = l.length - j ∧ i = .int .i64 j ∧ t = .bool (false && !((l.take j).any (voidsR known x))) ∧ Hid (Below wr.heap.size wr wr2))
          case atStart => exact ⟨0, by omega, by omega, rfl, rfl, Below.refl _ _⟩
          case round =>
            clear c0 c1 c2 c3 c4 c5 c6 c7 c8 lb
            obtain ⟨j, hj, hnj, rfl, rfl, HBI⟩ := hrel
            obtain ⟨t, ht⟩ : ∃ q, q = (false && !((l.take j).any (voidsR known x))) := ⟨_, rfl⟩
            rw [← ht]
            have HTT := Lib.hid ht
            clear ht
            obtain ⟨c0, c1, c2, c3, c4, c5, c6, c7, c8⟩ := wind_at ((HS.out.below HB.out).below HBI.out) HX.out
            have lb := World.block_lt_of_cell? _ _ c0
            by_cases hlj : j < l.length
            · have hy : l[j]? = some l[j] := List.getElem?_eq_getElem hlj
              obtain ⟨y, hye⟩ : ∃ y, y = l[j] := ⟨_, rfl⟩
              rw [← hye] at hy
              clear hye
              obtain ⟨e0, e1, e2, e3, e4, e5, e6, e7, e8⟩ := wind_at ((HS.out.below HB.out).below HBI.out) hy
              have l2 : (j : Int) < (l.length : Int) := by omega
              have hstep : (false && !((l.take (j + 1)).any (voidsR known x))) = (t && !(voidsR known x y)) := by
                rw [HTT.out]; exact void_step hy
              have hw := void_ways known x y t
              obtain ⟨tv, htv⟩ : ∃ q, q = (t && !(voidsR known x y)) := ⟨_, rfl⟩
              rw [← htv] at hstep hw
              have HST := Lib.hid hstep
              clear hstep htv hy
              go_wp2_with fail
              rcases hw with ⟨rfl, rfl⟩ | ⟨rfl, w1, rfl⟩ | ⟨rfl, w1, w2, rfl⟩ | ⟨rfl, w1, w2, rfl⟩
              all_goals first
                | (exfalso; have hh := HTT.out; simp only [Bool.false_and, Bool.true_and, reduceCtorEq] at hh; done)
                | (go_quiet (fail)
                   go_wp2_with fail
                   go_roundg (l.length - (j + 1))
                   case measure => omega
                   case rel => exact ⟨j + 1, by omega, rfl, by go_num, by rw [HST.out] <;> first | rfl | (simp; done) | (simp; omega), bl_drewN HBI.out _⟩)
            · obtain rfl : j = l.length := by omega
              rw [List.take_length] at HTT
              have HTC : Hid (countsR l known x = t) := by unfold Hid; rw [HTT.out, HCQ.out]
              have HBB := Lib.hid (bl_step HB.out HBI.out)
              have HOO := Lib.hid (HO.out.below HBI.out)
              cases t with
              | false =>
                rw [HTC.out] at HT
                go_wp2_with fail
                go_roundg (l.length - (k + 1))
                case measure => omega
                case rel => exact ⟨k + 1, by omega, rfl, by go_num, by unfold Hid; rw [HT.out]; simpa using HOO.out, HBB.out⟩
              | true => exfalso; have hh := HTT.out; simp at hh
    · obtain rfl : k = l.length := by omega
      rw [List.take_length] at HO
      go_wp2_with fail
      refine bodyPost_ret (v := u5) (by simp [results, Tryz.results81, go_sem]) rfl ⟨_, rfl, HO.out, HB.out⟩
end Go.Proofs.YtjekioabkmijbaaGreatDoor
/- The reference's Reach. -/
set_option linter.unusedVariables false
set_option linter.unusedSimpArgs false
namespace Go.Proofs.YtjekioabkmijbaaGreatDoor
open Go.RowKit
/-- The winds that count, as the reference gathers them. -/
theorem countingR_sl (l : List DWind) (v : Value) (known : Int) (w : World) (h : (errLog l).2 = 0) (hs : Sl DWind.cs 9 w v l) :
    Calls Tryz.prog 81 #[v, iv known] w fun e w' => ∃ v', e = .returned v' ∧ Sl DWind.cs 9 w' v' (counting l known) ∧ Below w.heap.size w w' := by
  have hl := log_len h
  refine (countingR_calls l v known w (by omega) hs).mono ?_
  rintro e w' ⟨v', rfl, ho, hb⟩
  rw [countingR_eq (log_winds h)] at ho
  refine ⟨v', rfl, ho.sl (cs := DWind.cs) (k := 9) (fun _ => rfl) ?_, hb⟩
  have := List.length_filter_le (counts l known) l
  unfold counting; omega
set_option maxHeartbeats 8000000 in
set_option maxRecDepth 20000 in
theorem reachR_calls (s : DSea) (l : List DWind) (x : DLoss) (known f h : Int) (vh vt vl : Value) (w : World) (h1 : Sl intCs 1 w vh s.hts) (h2 : Sl DTide.cs 2 w vt s.tds) (h3 : Sl DWind.cs 9 w vl l) :
    Calls Tryz.prog 23 #[.agg #[iv s.cells, iv s.bands, vh, vt], vl, iv known, lossV x, .int .u8 f, iv h] w fun e w' =>
      ∃ v, e = .returned (.tuple #[v, iv (errAsk s l x f none h)]) ∧ Sl DPlace.cs 2 w' v (reachL s l known f x h) ∧ Below w.heap.size w w' := by
  obtain ⟨A1, k1, rfl, hk1, hlk1⟩ := h1.open_
  obtain ⟨A2, k2, rfl, hk2, hlk2⟩ := h2.open_
  obtain ⟨A3, k3, rfl, hc3, hl3⟩ := h3.open_
  have H1 := Lib.hid h1
  have H2 := Lib.hid h2
  have H3 := Lib.hid h3
  clear h1 h2 h3
  have HRL : Hid (reachL s l known f x h = if errAsk s l x f none h = 0 then placesOf (reachM s (counting l known) f x h) else []) := rfl
  go_enter Tryz.func23, Tryz.ntmps23
  go_wp2_with fail
  refine calls_abs (fun W hW => ?_)
  have hL : Hid (LossBox s x w.heap.size (w.heap.size + 1) A1 k1 A2 k2 W) := ⟨by rw [hW]; exact blk_alloc (blk_new _ _) _, by rw [hW]; exact blk_at _ (by simp)⟩
  have hB : Hid (Below w.heap.size w W) := by unfold Hid; rw [hW]; exact bl_alloc (bl_alloc (Below.refl _ _) _) _
  clear hW
  refine (askedR_calls s l x ⟨0, 0⟩ f h _ _ _ W (H1.out.below hB.out) (H2.out.below hB.out) (H3.out.below hB.out)).mono ?_
  rintro e w1 ⟨rfl, hb1⟩
  rw [errAsk_zero]
  have HB1 := Lib.hid (bl_step hB.out hb1)
  have HL1 := Lib.hid (hL.out.below hb1)
  clear hb1 hL hB
  obtain ⟨er, her⟩ : ∃ q, q = errAsk s l x f none h := ⟨_, rfl⟩
  rw [← her] at HRL ⊢
  have HER := Lib.hid her
  clear her
  by_cases he : er = 0
  rotate_left
  · have he' : (er != 0) = true := by simp [bne, he]
    have HR : Hid (reachL s l known f x h = []) := by unfold Hid; rw [HRL.out, if_neg he]
    clear he HRL
    go_wp2_with fail
    refine bodyPost_ret (v := .tuple #[.slice none 0 0, iv er]) (by simp [results, Tryz.results23, go_sem]) rfl ⟨.slice none 0 0, by rw [← HER.out],  ?_, HB1.out⟩
    rw [HR.out]; exact Sl.nil _
  subst he
  have HR : Hid (reachL s l known f x h = placesOf (reachM s (counting l known) f x h)) := by unfold Hid; rw [HRL.out, if_pos rfl]
  have HF := Lib.hid (ask_facts HER.out.symm)
  clear HRL
  obtain ⟨N, hN⟩ : ∃ N, N = (h - x.hl).toNat := ⟨_, rfl⟩
  have hN2 : N ≤ 200 := by have := HF.out.near; omega
  have HN := Lib.hid hN
  clear hN
  obtain ⟨⟨a0, a1, a2, a3⟩, ⟨d0, d1, d2, d3, d4, d5, d6⟩, l0, l1⟩ := HL1.out.cells
  have FC81 : Hid (∀ V, Below w1.heap.size w1 V → Calls Tryz.prog 81 #[.slice A3 l.length k3, iv known] V fun e w' => ∃ v', e = .returned v' ∧ Sl DWind.cs 9 w' v' (counting l known) ∧ Below V.heap.size V w') := fun V hV => countingR_sl l _ known V HF.out.log ((H3.out.below HB1.out).below hV)
  have FC80 : Hid (∀ V v1, Below w1.heap.size w1 V → Sl DWind.cs 9 V v1 (counting l known) → Calls Tryz.prog 80 #[.agg #[iv s.cells, iv s.bands, .slice A1 s.hts.length k1, .slice A2 s.tds.length k2], v1, lossV x, .int .u8 f, iv h] V fun e w' => ∃ v', e = .returned v' ∧ OwnSl V.heap.size w' v' (refSets s (counting l known) f x (N + 1)) ∧ Below V.heap.size V w') := fun V v1 hV hs => by
    have := setsR_calls s (counting l known) f _ _ v1 x h V ⟨HF.out.sea, counting_winds known HF.out.log, HF.out.float, (H1.out.below HB1.out).below hV, (H2.out.below HB1.out).below hV, hs⟩ HF.out.loss HF.out.near HF.out.hour.2
    rwa [← HN.out] at this
  go_wp2_with fail
  go_region_held3 (fun V => (∀ b o, b < w1.heap.size → V.cell? ⟨b, o, none⟩ = w1.cell? ⟨b, o, none⟩) ∧ Hid (Below w1.heap.size w1 V)) (first | exact sees_start w1 | exact sees_step (by assumption) hb7 | exact sees_step (by assumption) hb8) (first | (go_at_call 81; refine (FC81.out _ (Hid.out (And.right (by assumption)))).mono ?_; rintro e w' ⟨v1, rfl, hk1, hb7⟩) | (go_at_call 80; refine (FC80.out _ v1 (Hid.out (And.right (by assumption))) hk1).mono ?_; rintro e w' ⟨v2, rfl, hs2, hb8⟩))
  have hbx := (And.right ‹_ ∧ Hid _›).out
  have HBX := Lib.hid (bl_step HB1.out hbx)
  obtain ⟨A5, k5, rfl⟩ := hs2.slice' (refSets_len s (counting l known) f x (N + 1))
  obtain ⟨b, o, uu, rfl, cu, hsp⟩ := hs2.get (by rw [refSets_len]; omega) N _ (refSets_get s (counting l known) f x (show N < N + 1 by omega))
  obtain ⟨A6, k6, rfl, _, _⟩ := hsp.sl.open_
  have HSP := Lib.hid hsp
  have lb := World.block_lt_of_cell? _ _ cu
  have i1 : IntKind.i64.wrap (N : Int) = (N : Int) := IntWalk.i64_in _ ⟨by omega, by omega⟩
  have i2 : IntKind.i64.wrap ((N : Int) + 1 - 1) = (N : Int) := by rw [show (N : Int) + 1 - 1 = (N : Int) by omega]; exact i1
  have i3 : (0 : Int) ≤ (N : Int) := by omega
  have i4 : (N : Int) < (N : Int) + 1 := by omega
  have HRE : Hid (placesOf (reachM s (counting l known) f x h) = placesOf (setAt s (counting l known) f x N)) := by unfold Hid reachM; rw [HN.out]
  clear hbx hsp hs2 hk1 a0 a1 a2 a3 d0 d1 d2 d3 d4 d5 d6 l0 l1
  go_wp2_with fail
  refine bodyPost_ret (v := .tuple #[.slice A6 (placesOf (setAt s (counting l known) f x N)).length k6, iv 0]) (by simp [results, Tryz.results23, go_sem]) rfl ⟨.slice A6 (placesOf (setAt s (counting l known) f x N)).length k6, by rw [← HER.out],  ?_, HBX.out⟩
  rw [HR.out, HRE.out]; exact HSP.out.sl
end Go.Proofs.YtjekioabkmijbaaGreatDoor
/- The reference's Beaches. -/
set_option linter.unusedVariables false
set_option linter.unusedSimpArgs false
namespace Go.Proofs.YtjekioabkmijbaaGreatDoor
open Go.RowKit
theorem reachL_320 (s : DSea) (l : List DWind) (known f : Int) (x : DLoss) (h : Int) : (reachL s l known f x h).length ≤ 320 := by
  unfold reachL; split
  · exact places_len _
  · simp
theorem int_cells1 (n : Int) : ∀ u ∈ intCs n, u.oneCell' = true := by
  intro u hu
  simp [intCs] at hu
  subst hu; rfl
set_option maxHeartbeats 4000000 in
set_option maxRecDepth 20000 in
theorem beachesR_calls (s : DSea) (l : List DWind) (x : DLoss) (known f h : Int) (vh vt vl : Value) (w : World) (h1 : Sl intCs 1 w vh s.hts) (h2 : Sl DTide.cs 2 w vt s.tds) (h3 : Sl DWind.cs 9 w vl l) :
    Calls Tryz.prog 25 #[.agg #[iv s.cells, iv s.bands, vh, vt], vl, iv known, lossV x, .int .u8 f, iv h] w fun e w' =>
      ∃ v, e = .returned (.tuple #[v, iv (errAsk s l x f none h)]) ∧ Sl intCs 1 w' v (beachL s l known f x h) ∧ Below w.heap.size w w' := by
  obtain ⟨A1, k1, rfl, hk1, hlk1⟩ := h1.open_
  obtain ⟨A2, k2, rfl, hk2, hlk2⟩ := h2.open_
  obtain ⟨A3, k3, rfl, hc3, hl3⟩ := h3.open_
  have H1 := Lib.hid h1
  have H2 := Lib.hid h2
  have H3 := Lib.hid h3
  clear h1 h2 h3
  have HBL : Hid (beachL s l known f x h = beachOf (reachL s l known f x h)) := rfl
  go_enter Tryz.func25, Tryz.ntmps25
  go_wp2_with fail
  refine calls_abs (fun W hW => ?_)
  have hB : Hid (Below w.heap.size w W) := by unfold Hid; rw [hW]; exact bl_alloc (bl_alloc (Below.refl _ _) _) _
  clear hW
  refine (reachR_calls s l x known f h _ _ _ W (H1.out.below hB.out) (H2.out.below hB.out) (H3.out.below hB.out)).mono ?_
  rintro e w1 ⟨v1, rfl, hs1, hb1⟩
  have HB1 := Lib.hid (bl_step hB.out hb1)
  have hrl := reachL_320 s l known f x h
  obtain ⟨R, hR⟩ : ∃ q, q = reachL s l known f x h := ⟨_, rfl⟩
  rw [← hR] at hs1 HBL hrl
  obtain ⟨er, her⟩ : ∃ q, q = errAsk s l x f none h := ⟨_, rfl⟩
  rw [← her]
  have HER := Lib.hid her
  obtain ⟨A, c, rfl, hc, hll⟩ := hs1.open_
  have HS := Lib.hid hs1
  clear hs1 hb1 hB hR her
  go_wp2_with fail
  go_loopg [16, 17] R.length (fun n u i wr => ∃ k : Nat, k ≤ R.length ∧ n = R.length - k ∧ i = .int .i64 k ∧ Hid (Own intCs 1 3 w1.heap.size wr u (beachOf (R.take k))) ∧ Hid (Below w1.heap.size w1 wr))
  case atStart => exact ⟨0, by omega, by omega, rfl, Own.nil _ _, Below.refl _ _⟩
  case round =>
    obtain ⟨k, hk, hn, rfl, HO, HB⟩ := hrel
    by_cases hlt : k < R.length
    · have hx : R[k]? = some R[k] := List.getElem?_eq_getElem hlt
      obtain ⟨p, hpe⟩ : ∃ p, p = R[k] := ⟨_, rfl⟩
      rw [← hpe] at hx
      clear hpe
      obtain ⟨b, o, rfl, c0, c1⟩ := (HS.out.below HB.out).place k _ hx
      have htk : R.take (k + 1) = R.take k ++ [p] := by rw [List.take_add_one, hx]; rfl
      have HTK := Lib.hid htk
      have l1 : (k : Int) < (R.length : Int) := by omega
      have hpl := beachOf_len (R.take k)
      have hpl2 := List.length_take_le k R
      obtain ⟨pre, hpre⟩ : ∃ q, q = beachOf (R.take k) := ⟨_, rfl⟩
      rw [← hpre] at HO hpl
      have HPR := Lib.hid hpre
      have hpl3 : pre.length ≤ 1000 := by omega
      clear hx htk hpre hpl hpl2
      by_cases hb : p.b = 0
      · have hb' : (p.b == 0) = true := by simp [hb]
        have HT : Hid (beachOf (R.take (k + 1)) = pre ++ [p.c]) := by unfold Hid; rw [HTK.out, beachOf_yes hb, HPR.out]
        clear hb
        go_wp2_with (at_builtin; refine wp_push (cs := intCs) (base := w1.heap.size) rfl _ _ _ rfl (.int .i64 0) 8 Tryz.underlying22 info3 rfl (by decide) u16 pre p.c rfl (HO.out.alloc _) wr.heap.size 1 1 rfl rfl (0, 0) 3 (blk_new _ _) rfl (int_cells1 _) (by omega) (by decide) (alloc_ge HB.out.size _) ?_; intro v' W4 hown' hgrow; have HO4 := Lib.hid hown'; have HB4 : Hid (Below w1.heap.size w1 W4) := bl_push (bl_alloc HB.out _) (HO.out.alloc _) hgrow (Nat.le_refl _) (alloc_ge HB.out.size _); clear hown' hgrow)
        go_roundg (R.length - (k + 1))
        case measure => omega
        case rel => exact ⟨k + 1, by omega, rfl, by go_num, by unfold Hid; rw [HT.out]; exact HO4.out, HB4.out⟩
      · have hb' : (p.b == 0) = false := by simp [hb]
        have HT : Hid (beachOf (R.take (k + 1)) = pre) := by unfold Hid; rw [HTK.out, beachOf_no hb, HPR.out]
        clear hb
        go_wp2_with fail
        go_roundg (R.length - (k + 1))
        case measure => omega
        case rel => exact ⟨k + 1, by omega, rfl, by go_num, by unfold Hid; rw [HT.out]; exact HO.out, HB.out⟩
    · obtain rfl : k = R.length := by omega
      rw [List.take_length] at HO
      have hbl := beachOf_len R
      go_wp2_with fail
      refine bodyPost_ret (v := .tuple #[u16, iv er]) (by simp [results, Tryz.results25, go_sem]) rfl ⟨u16, by rw [← HER.out],  ?_, bl_step HB1.out HB.out⟩
      rw [HBL.out]; exact HO.out.sl (cs := intCs) (k := 1) (fun _ => rfl) (by omega)
end Go.Proofs.YtjekioabkmijbaaGreatDoor
/- Plain: landings, cell by cell. -/
set_option linter.unusedVariables false
set_option linter.unusedSimpArgs false
namespace Go.Proofs.YtjekioabkmijbaaGreatDoor
/-- From place p a package lands on the beach of the cell c. -/
def beachAt (s : DSea) (ws : List DWind) (f h c : Int) (p : DPlace) : Bool := p.b != 0 && (placesOf (movesM s ws f p h)).contains ⟨c, 0⟩
def landsAt (s : DSea) (ws : List DWind) (f c : Int) (y : Int × Nat) : Bool := (placesOf y.2).any (beachAt s ws f y.1 c)
/-- What is known of a cell behind an hour. -/
def landNext (h : Int) (o : Option (Int × Int)) (b : Bool) : Option (Int × Int) := if b then some (o.elim (h + 1) Prod.fst, h + 1) else o
theorem landNext_or (h : Int) (o : Option (Int × Int)) (a b : Bool) : landNext h (landNext h o a) b = landNext h o (a || b) := by
  cases a <;> cases b <;> simp [landNext]
theorem landQ_at (h : Int) (L : Lands) (q : DPlace) (c : Int) : landQ h L q c = landNext h (L c) (decide (q = ⟨c, 0⟩)) := by
  obtain ⟨qc, qb⟩ := q
  unfold landQ landPut landNext
  by_cases hb : qb = 0
  · subst hb
    by_cases hc : c = qc
    · subst hc; simp
    · have : ¬ qc = c := fun h => hc h.symm
      simp [hc, this]
  · simp [hb]
theorem foldQ_at (h c : Int) : ∀ (l : List DPlace) (L : Lands), l.foldl (landQ h) L c = landNext h (L c) (l.contains ⟨c, 0⟩)
  | [], L => by simp [landNext]
  | q :: r, L => by
    rw [List.foldl_cons, foldQ_at h c r, landQ_at, landNext_or]
    congr 1
    rw [List.contains_cons]
    have : ((⟨c, 0⟩ : DPlace) == q) = decide (q = ⟨c, 0⟩) := by
      rw [Bool.eq_iff_iff, beq_iff_eq, decide_eq_true_eq]; exact eq_comm
    rw [this]
theorem landP_at (s : DSea) (ws : List DWind) (f h c : Int) (L : Lands) (p : DPlace) : landP s ws f h L p c = landNext h (L c) (beachAt s ws f h c p) := by
  unfold landP beachAt
  by_cases hb : p.b = 0
  · simp [hb, landNext]
  · have hb' : (p.b != 0) = true := by simp [hb]
    rw [if_neg hb, foldQ_at, hb', Bool.true_and]
theorem landH_at (s : DSea) (ws : List DWind) (f c : Int) (L : Lands) (y : Int × Nat) : landH s ws f L y c = landNext y.1 (L c) (landsAt s ws f c y) := by
  have : ∀ (l : List DPlace) (L : Lands), l.foldl (landP s ws f y.1) L c = landNext y.1 (L c) (l.any (beachAt s ws f y.1 c)) := by
    intro l
    induction l with
    | nil => intro L; simp [landNext]
    | cons p r ih => intro L; rw [List.foldl_cons, ih, landP_at, landNext_or, List.any_cons]
  exact this _ L
/-- First and last of a cell, as the reference keeps them. -/
def refNext (h : Int) (o : Int × Int) (b : Bool) : Int × Int := if b then (if o.1 < 0 then h + 1 else o.1, h + 1) else o
def flOf (o : Option (Int × Int)) : Int × Int := o.getD (-1, -1)
def refAt (s : DSea) (ws : List DWind) (f : Int) (x : DLoss) (c : Int) (k : Nat) : Int × Int := (hoursTo s ws f x k).foldl (fun o y => refNext y.1 o (landsAt s ws f c y)) (-1, -1)
theorem refAt_zero (s : DSea) (ws : List DWind) (f : Int) (x : DLoss) (c : Int) : refAt s ws f x c 0 = (-1, -1) := rfl
theorem refAt_succ (s : DSea) (ws : List DWind) (f : Int) (x : DLoss) (c : Int) (k : Nat) : refAt s ws f x c (k + 1) = refNext (x.hl + (k : Int)) (refAt s ws f x c k) (landsAt s ws f c (x.hl + (k : Int), setAt s ws f x k)) := by
  unfold refAt; rw [hoursTo_succ, List.foldl_append]; rfl
theorem ref_land (s : DSea) (ws : List DWind) (f : Int) (x : DLoss) (c : Int) (h0 : 0 ≤ x.hl) : ∀ k : Nat,
    flOf ((hoursTo s ws f x k).foldl (landH s ws f) (fun _ => none) c) = refAt s ws f x c k ∧ ((hoursTo s ws f x k).foldl (landH s ws f) (fun _ => none) c = none ∧ (refAt s ws f x c k).1 = -1 ∨ ∃ q, (hoursTo s ws f x k).foldl (landH s ws f) (fun _ => none) c = some q ∧ 0 ≤ q.1)
  | 0 => ⟨rfl, .inl ⟨rfl, rfl⟩⟩
  | k + 1 => by
    obtain ⟨h1, h2⟩ := ref_land s ws f x c h0 k
    rw [hoursTo_succ, List.foldl_append, List.foldl_cons, List.foldl_nil, landH_at, refAt_succ, ← h1]
    generalize (hoursTo s ws f x k).foldl (landH s ws f) (fun _ => none) c = o at *
    cases landsAt s ws f c (x.hl + (k : Int), setAt s ws f x k) with
    | false =>
      refine ⟨by simp [landNext, refNext], ?_⟩
      rcases h2 with ⟨rfl, _⟩ | ⟨q, rfl, hq⟩
      · exact .inl ⟨rfl, rfl⟩
      · exact .inr ⟨q, rfl, hq⟩
    | true =>
      rcases h2 with ⟨rfl, _⟩ | ⟨q, rfl, hq⟩
      · refine ⟨by simp [landNext, refNext, flOf], .inr ⟨_, rfl, ?_⟩⟩
        simp; omega
      · have hq' : ¬ q.1 < 0 := by omega
        refine ⟨by simp [landNext, refNext, flOf, hq'], .inr ⟨_, rfl, ?_⟩⟩
        simpa using hq
theorem landAll_ref {s : DSea} {ws : List DWind} {f : Int} {x : DLoss} {h c : Int} (h0 : 0 ≤ x.hl) :
    landAll s ws f x h c = if (refAt s ws f x c (hoursN x (h - 1))).1 < 0 then none else some (refAt s ws f x c (hoursN x (h - 1))) := by
  obtain ⟨h1, h2⟩ := ref_land s ws f x c h0 (hoursN x (h - 1))
  unfold landAll
  rcases h2 with ⟨e, h3⟩ | ⟨q, e, hq⟩
  · rw [e, h3]; rfl
  · rw [← h1, e]
    have hn : ¬ (flOf (some q)).1 < 0 := by show ¬ q.1 < 0; omega
    exact (if_neg hn).symm
end Go.Proofs.YtjekioabkmijbaaGreatDoor
/- Plain: from where a package can come. -/
set_option linter.unusedVariables false
set_option linter.unusedSimpArgs false
namespace Go.Proofs.YtjekioabkmijbaaGreatDoor
/-- From p a package can go into the set. -/
def leadsTo (s : DSea) (ws : List DWind) (f : Int) (m : Nat) (t : Int) (p : DPlace) : Bool := (placesOf (movesM s ws f p t)).any fun q => m.testBit (num q)
def backRow (s : DSea) (ws : List DWind) (f : Int) (m : Nat) (t c : Int) (a : Nat) (l : List Int) : Nat := l.foldl (fun a b => if leadsTo s ws f m t ⟨c, b⟩ then a ||| bit ⟨c, b⟩ else a) a
def backM (s : DSea) (ws : List DWind) (f : Int) (m : Nat) (t : Int) : Nat := (ints 0 (s.cells - 1)).foldl (fun a c => backRow s ws f m t c a (ints 0 s.bands)) 0
def beforeM (s : DSea) (ws : List DWind) (f : Int) (p : DPlace) (h : Int) : Nat → Nat
  | 0 => bit p
  | k + 1 => backM s ws f (beforeM s ws f p h k) (h - 1 - (k : Int))
theorem backRow_test (s : DSea) (ws : List DWind) (f : Int) (m : Nat) (t c : Int) (n : Nat) : ∀ (l : List Int) (a : Nat), (backRow s ws f m t c a l).testBit n = (a.testBit n || l.any fun b => leadsTo s ws f m t ⟨c, b⟩ && decide (n = num ⟨c, b⟩))
  | [], a => by simp [backRow]
  | b :: r, a => by
    have := backRow_test s ws f m t c n r (if leadsTo s ws f m t ⟨c, b⟩ then a ||| bit ⟨c, b⟩ else a)
    unfold backRow at this ⊢
    rw [List.foldl_cons, this, List.any_cons]
    cases leadsTo s ws f m t ⟨c, b⟩ with
    | true => simp only [if_true, Nat.testBit_or, bit_test, Bool.true_and, Bool.or_assoc]
    | false => simp
theorem backM_test (s : DSea) (ws : List DWind) (f : Int) (m : Nat) (t : Int) (n : Nat) : (backM s ws f m t).testBit n = (ints 0 (s.cells - 1)).any fun c => (ints 0 s.bands).any fun b => leadsTo s ws f m t ⟨c, b⟩ && decide (n = num ⟨c, b⟩) := by
  unfold backM
  have : ∀ (l : List Int) (a : Nat), (l.foldl (fun a c => backRow s ws f m t c a (ints 0 s.bands)) a).testBit n = (a.testBit n || l.any fun c => (ints 0 s.bands).any fun b => leadsTo s ws f m t ⟨c, b⟩ && decide (n = num ⟨c, b⟩)) := by
    intro l
    induction l with
    | nil => intro a; simp
    | cons c r ih => intro a; rw [List.foldl_cons, ih, backRow_test, List.any_cons, Bool.or_assoc]
  rw [this, Nat.zero_testBit, Bool.false_or]
theorem placeOk_iff {s : DSea} {p : DPlace} : placeOk s p = true ↔ (0 ≤ p.c ∧ p.c ≤ s.cells - 1) ∧ (0 ≤ p.b ∧ p.b ≤ s.bands) := by
  unfold placeOk; simp only [Bool.and_eq_true, decide_eq_true_eq]
theorem back_mem {s : DSea} {ws : List DWind} {f t : Int} {m : Nat} {p : DPlace} (hs : seaOk s = true) (hp : placeOk s p = true) : p ∈ placesOf (backM s ws f m t) ↔ leadsTo s ws f m t p = true := by
  have hpo := okP_of hs hp
  rw [mem_bit hpo, backM_test, List.any_eq_true]
  rw [placeOk_iff] at hp
  constructor
  · rintro ⟨c, hc, h2⟩
    obtain ⟨b, hb, h3⟩ := List.any_eq_true.1 h2
    rw [Bool.and_eq_true, decide_eq_true_eq] at h3
    rw [mem_ints] at hc hb
    have hq : okP ⟨c, b⟩ := okP_of hs (placeOk_iff.2 ⟨hc, hb⟩)
    rw [num_inj hpo hq h3.2]; exact h3.1
  · intro h
    refine ⟨p.c, mem_ints.2 hp.1, List.any_eq_true.2 ⟨p.b, mem_ints.2 hp.2, ?_⟩⟩
    rw [Bool.and_eq_true, decide_eq_true_eq]; exact ⟨h, rfl⟩
theorem backM_ok {s : DSea} (ws : List DWind) (f : Int) (m : Nat) (t : Int) (hs : seaOk s = true) : okM s (backM s ws f m t) := okM_iff.2 fun n hn ht => by
  rw [backM_test, List.any_eq_true] at ht
  obtain ⟨c, hc, h2⟩ := ht
  obtain ⟨b, hb, h3⟩ := List.any_eq_true.1 h2
  rw [Bool.and_eq_true, decide_eq_true_eq] at h3
  rw [mem_ints] at hc hb
  have hq := placeOk_iff (s := s) (p := ⟨c, b⟩) |>.2 ⟨hc, hb⟩
  rw [h3.2, placed_num (okP_of hs hq)]; exact hq
theorem beforeM_ok {s : DSea} (ws : List DWind) (f : Int) {p : DPlace} (h : Int) (hs : seaOk s = true) (hp : placeOk s p = true) : ∀ k, okM s (beforeM s ws f p h k)
  | 0 => okM_bit hs hp
  | k + 1 => backM_ok ws f _ _ hs
/-- One hour back. -/
theorem leads_one {s : DSea} {ws : List DWind} {f t : Int} {p q : DPlace} (hs : seaOk s = true) (hp : placeOk s p = true) (hq : placeOk s q = true) : leadsTo s ws f (bit q) t p = (placesOf (movesM s ws f p t)).contains q := by
  unfold leadsTo
  rw [Bool.eq_iff_iff, List.any_eq_true, List.contains_iff_mem]
  constructor
  · rintro ⟨r, hr, h⟩
    rw [bit_test, decide_eq_true_eq] at h
    rwa [← num_inj (okP_of hs (movesM_ok ws f t hs hp r hr)) (okP_of hs hq) h]
  · intro h; exact ⟨q, h, by rw [bit_test, decide_eq_true_eq]⟩
end Go.Proofs.YtjekioabkmijbaaGreatDoor
