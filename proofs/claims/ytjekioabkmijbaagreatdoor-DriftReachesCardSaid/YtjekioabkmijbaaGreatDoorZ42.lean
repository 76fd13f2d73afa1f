/- The reference's put: a place into an ordered list, once. -/
import Derived.Test.YtjekioabkmijbaaGreatDoorZ41
import Derived.Test.YtjekioabkmijbaaGreatDoorZ19
set_option linter.unusedVariables false
set_option linter.unusedSimpArgs false
namespace Go.Proofs.YtjekioabkmijbaaGreatDoor
open Go.RowKit
theorem placeR_cells {W : World} {g : Nat} {p : DPlace} {t : TypeId} {f : Nat × Nat} (h : W.heap[g]? = some (.cells #[iv p.c, iv p.b] t f)) : W.cell? ⟨g, 0, none⟩ = some (iv p.c) ∧ W.cell? ⟨g, 1, none⟩ = some (iv p.b) := ⟨blk_cell h 0, blk_cell h 1⟩
theorem alloc_ge {B : Nat} {V : World} (h : B ≤ V.heap.size) (o : Obj) : B ≤ (V.alloc o).heap.size := Nat.le_trans h (by simp)
theorem place_at0 {w : World} {b o n c : Nat} {xs : List DPlace} {i : Nat} {x : DPlace} (h : Sl DPlace.cs 2 w (.slice (some ⟨b, o, none⟩) n c) xs) (hi : xs[i]? = some x) : w.cell? ⟨b, o + i * 2, none⟩ = some (iv x.c) := by
  obtain ⟨b1, o1, e, h1, h2⟩ := h.place i x hi
  cases e; exact h1
theorem place_at1 {w : World} {b o n c : Nat} {xs : List DPlace} {i : Nat} {x : DPlace} (h : Sl DPlace.cs 2 w (.slice (some ⟨b, o, none⟩) n c) xs) (hi : xs[i]? = some x) : w.cell? ⟨b, o + i * 2 + 1, none⟩ = some (iv x.b) := by
  obtain ⟨b1, o1, e, h1, h2⟩ := h.place i x hi
  cases e; exact h2
/-- A list of places that is read, in memory of places. -/
structure SlP (w : World) (v : Value) (xs : List DPlace) : Prop where
  sl : Sl DPlace.cs 2 w v xs
  ty : ∀ b, v.ownBlock = some b → ∃ cur f, w.heap[b]? = some (.cells cur 48 f)
theorem SlP.below {w w' : World} {v : Value} {xs : List DPlace} (h : SlP w v xs) (hb : Below w.heap.size w w') : SlP w' v xs := ⟨h.sl.below hb, fun b e => by obtain ⟨cur, f, h1⟩ := h.ty b e; exact ⟨cur, f, blk_below h1 hb⟩⟩
theorem SlP.drewN {w : World} {v : Value} {xs : List DPlace} (h : SlP w v xs) (n : Nat) : SlP (w.drewN n) v xs := ⟨h.sl.drewN n, h.ty⟩
theorem SlP.nil (w : World) : SlP w (.slice none 0 0) [] := ⟨Sl.nil w, fun b h => by simp [Value.ownBlock] at h⟩
theorem Own.slp {base : Nat} {w : World} {v : Value} {xs : List DPlace} (h : Own DPlace.cs 2 48 base w v xs) (hl : xs.length ≤ 17592186044416) : SlP w v xs := ⟨h.sl (fun _ => rfl) hl, fun b hb => by
  rcases h.2 with ⟨rfl, _⟩ | ⟨g, cap, cur, rfl, hg, hh, r⟩
  · simp [Value.ownBlock] at hb
  · simp [Value.ownBlock] at hb; subst hb; exact ⟨_, _, hh⟩⟩
theorem place_same {x p : DPlace} (h : (x.c == p.c && x.b == p.b) = true) : x = p := by
  simp only [Bool.and_eq_true, beq_iff_eq] at h
  obtain ⟨x1, x2⟩ := x
  obtain ⟨p1, p2⟩ := p
  simp only at h
  rw [h.1, h.2]
theorem putStep_in {p x : DPlace} {pre : List DPlace} (h : ltP p x = true) : putStep p (pre, false) x = (pre ++ [p] ++ [x], true) := by unfold putStep; simp [h]
theorem putStep_out {p x : DPlace} {pre : List DPlace} {d : Bool} (h : d = true ∨ ltP p x = false) : putStep p (pre, d) x = (pre ++ [x], d) := by
  unfold putStep
  rcases h with rfl | h
  · simp
  · simp [h]
theorem putL_len (l : List DPlace) (p : DPlace) : (putL l p).length ≤ 2 * l.length + 1 := by
  unfold putL
  split
  · omega
  · have := putTo_len p l
    split <;> simp <;> omega
set_option maxHeartbeats 8000000 in
set_option maxRecDepth 20000 in
theorem put_calls (l : List DPlace) (p : DPlace) (v : Value) (w : World) (hl : l.length ≤ 1000) (hs : SlP w v l) :
    Calls Tryz.prog 139 #[v, placeV p] w fun e w' => ∃ v', e = .returned v' ∧ SlP w' v' (putL l p) ∧ Below w.heap.size w w' := by
  obtain ⟨A, c, rfl, hc, hll⟩ := hs.sl.open_
  have HS0 := Lib.hid hs
  clear hs
  go_enter Tryz.func139, Tryz.ntmps139
  go_wp2_with fail
  refine wp_abs (fun W hW => ?_)
  have g0 : Hid (W.heap[w.heap.size]? = some (.cells #[iv p.c, iv p.b] 48 (0, 0))) := by unfold Hid; rw [hW]; exact blk_new _ _
  have hB : Hid (Below w.heap.size w W) := by unfold Hid; rw [hW]; exact bl_alloc (Below.refl _ _) _
  have HSP : Hid (SlP W (.slice A l.length c) l) := HS0.out.below hB.out
  have HS : Hid (Sl DPlace.cs 2 W (.slice A l.length c) l) := HSP.out.sl
  clear hW HS0
  go_loopg [5, 6, 7] l.length (fun n u d i wr => ∃ k : Nat, k ≤ l.length ∧ n = l.length - k ∧ i = .int .i64 k ∧ d = .bool (putTo p (l.take k)).2 ∧ Hid (Own DPlace.cs 2 48 W.heap.size wr u (putTo p (l.take k)).1) ∧ Hid (Below W.heap.size W wr) ∧ Hid (∀ j y, j < k → l[j]? = some y → y ≠ p))
  case atStart => exact ⟨0, by omega, by omega, rfl, rfl, Own.nil _ _, Below.refl _ _, fun j y hj => by omega⟩
  case round =>
    obtain ⟨k, hk, hn, rfl, rfl, HO, HB, H0⟩ := hrel
    obtain ⟨pre, hpre⟩ : ∃ q, q = (putTo p (l.take k)).1 := ⟨_, rfl⟩
    obtain ⟨dn, hdn⟩ : ∃ q, q = (putTo p (l.take k)).2 := ⟨_, rfl⟩
    have HPT : Hid (putTo p (l.take k) = (pre, dn)) := by unfold Hid; rw [hpre, hdn]
    have hpl : pre.length ≤ 2000 := by
      rw [hpre]
      have h1 := putTo_len p (l.take k)
      have h2 := List.length_take_le k l
      omega
    rw [← hpre] at HO
    rw [← hdn]
    clear hpre hdn
    by_cases hlt : k < l.length
    · have hx : l[k]? = some l[k] := List.getElem?_eq_getElem hlt
      obtain ⟨x, hxe⟩ : ∃ x, x = l[k] := ⟨_, rfl⟩
      rw [← hxe] at hx
      clear hxe
      obtain ⟨b, o, rfl, c0, c1⟩ := (HS.out.below HB.out).place k _ hx
      have gp := blk_below g0.out HB.out
      obtain ⟨d0, d1⟩ := placeR_cells gp
      have lp := blk_lt gp
      have lb := World.block_lt_of_cell? _ _ c0
      have HX := Lib.hid hx
      have HT : Hid (putTo p (l.take (k + 1)) = putStep p (pre, dn) x) := by unfold Hid; rw [putTo_take hx, HPT.out]
      have l1 : (k : Int) < (l.length : Int) := by omega
      have he := eqPlace x.c x.b p.c p.b
      clear hx gp
      cases hxy : (x.c == p.c && x.b == p.b) with
      | true =>
        have HE : Hid (putL l p = l) := by
          unfold Hid putL
          refine if_pos ?_
          rw [List.contains_iff_mem]
          exact place_same hxy ▸ List.mem_of_getElem? HX.out
        go_wp2_with fail
        go_quiet (fail)
        go_wp2_with fail
        refine bodyPost_ret (v := .slice (some ⟨b, o, none⟩) l.length c) (by simp [results, Tryz.results139, go_sem]) rfl ⟨_, rfl, ?_, ?_⟩
        · rw [HE.out]; exact (HSP.out.below HB.out).drewN _
        · exact bl_step hB.out (bl_drewN HB.out _)
      | false =>
        have HNE : Hid (x ≠ p) := by rintro rfl; simp at hxy
        go_wp2_with fail
        go_quiet (fail)
        go_wp2_with fail
        refine wp_abs (fun V hV => ?_)
        have q0 : V.cell? ⟨b, o + k * 2, none⟩ = some (iv x.c) := by rw [hV]; exact c0
        have q1 : V.cell? ⟨b, o + k * 2 + 1, none⟩ = some (iv x.b) := by rw [hV]; exact c1
        have e0 : V.cell? ⟨w.heap.size, 0, none⟩ = some (iv p.c) := by rw [hV]; exact d0
        have e1 : V.cell? ⟨w.heap.size, 1, none⟩ = some (iv p.b) := by rw [hV]; exact d1
        have HOV : Hid (Own DPlace.cs 2 48 W.heap.size V u5 pre) := by unfold Hid; rw [hV]; exact HO.out.drewN _
        have HBV : Hid (Below W.heap.size W V) := by unfold Hid; rw [hV]; exact bl_drewN HB.out _
        have lpv : w.heap.size < V.heap.size := World.block_lt_of_cell? _ _ e0
        have lbv : b < V.heap.size := World.block_lt_of_cell? _ _ q0
        have HRL : Hid (∀ (j : Nat) (y : DPlace), j < k + 1 → l[j]? = some y → y ≠ p) := fun j y hj hy => by
          rcases Nat.lt_or_ge j k with h | h
          · exact H0.out j y h hy
          · obtain rfl : j = k := by omega
            have := HX.out
            rw [hy] at this
            cases this
            exact HNE.out
        clear hV c0 c1 d0 d1 lp lb he hxy HO HB H0
        cases dn with
        | true =>
          go_quiet (fail)
          have HOQ : Hid (Own DPlace.cs 2 48 W.heap.size (V.drewN nq) u5 pre) := HOV.out.drewN _
          have HBQ : Hid (Below W.heap.size W (V.drewN nq)) := bl_drewN HBV.out _
          have q0' : (V.drewN nq).cell? ⟨b, o + k * 2, none⟩ = some (iv x.c) := q0
          have q1' : (V.drewN nq).cell? ⟨b, o + k * 2 + 1, none⟩ = some (iv x.b) := q1
          have e0' : (V.drewN nq).cell? ⟨w.heap.size, 0, none⟩ = some (iv p.c) := e0
          have e1' : (V.drewN nq).cell? ⟨w.heap.size, 1, none⟩ = some (iv p.b) := e1
          clear q0 q1 e0 e1 HOV HBV
          have HST : Hid (putStep p (pre, true) x = (pre ++ [x], true)) := putStep_out (.inl rfl)
          go_wp2_with (at_builtin; refine wp_push (cs := DPlace.cs) (base := W.heap.size) rfl _ _ _ rfl (.agg #[iv 0, iv 0]) 16 Tryz.underlying34 info48 rfl (by decide) u5 (pre) x rfl (HOQ.out.alloc _) (V.drewN nq).heap.size 1 1 rfl rfl (0, 0) 48 (blk_new _ _) rfl (place_cells1 _) (by first | omega | (simp; omega)) (by decide) (alloc_ge HBQ.out.size _) ?_; intro v1 W1 hown' hgrow; have HO1 := Lib.hid hown'; have HBW1 : Hid (Below W.heap.size W W1) := bl_push (bl_alloc HBQ.out _) (HOQ.out.alloc _) hgrow (Nat.le_refl _) (alloc_ge HBQ.out.size _); clear hown' hgrow)
          go_roundg (l.length - (k + 1))
          case measure => omega
          case rel => exact ⟨k + 1, by omega, rfl, by go_num, by rw [HT.out, HST.out], by unfold Hid; rw [HT.out, HST.out]; exact HO1.out, HBW1.out, HRL.out⟩
        | false =>
          by_cases h1 : p.c < x.c
          · have h1d : Hid (p.c < x.c) := h1
            go_quiet (fail)
            have HOQ : Hid (Own DPlace.cs 2 48 W.heap.size (V.drewN nq) u5 pre) := HOV.out.drewN _
            have HBQ : Hid (Below W.heap.size W (V.drewN nq)) := bl_drewN HBV.out _
            have q0' : (V.drewN nq).cell? ⟨b, o + k * 2, none⟩ = some (iv x.c) := q0
            have q1' : (V.drewN nq).cell? ⟨b, o + k * 2 + 1, none⟩ = some (iv x.b) := q1
            have e0' : (V.drewN nq).cell? ⟨w.heap.size, 0, none⟩ = some (iv p.c) := e0
            have e1' : (V.drewN nq).cell? ⟨w.heap.size, 1, none⟩ = some (iv p.b) := e1
            clear q0 q1 e0 e1 HOV HBV
            have HST : Hid (putStep p (pre, false) x = (pre ++ [p] ++ [x], true)) := putStep_in (ltP_true (.inl h1d.out))
            go_wp2_with (first | (at_builtin; refine wp_push (cs := DPlace.cs) (base := W.heap.size) rfl _ _ _ rfl (.agg #[iv 0, iv 0]) 16 Tryz.underlying34 info48 rfl (by decide) u5 (pre) p rfl (HOQ.out.alloc _) (V.drewN nq).heap.size 1 1 rfl rfl (0, 0) 48 (blk_new _ _) rfl (place_cells1 _) (by first | omega | (simp; omega)) (by decide) (alloc_ge HBQ.out.size _) ?_; intro v1 W1 hown' hgrow; have HO1 := Lib.hid hown'; have HBW1 : Hid (Below W.heap.size W W1) := bl_push (bl_alloc HBQ.out _) (HOQ.out.alloc _) hgrow (Nat.le_refl _) (alloc_ge HBQ.out.size _); clear hown' hgrow; have q2 : W1.cell? ⟨b, o + k * 2, none⟩ = some (iv x.c) := place_at0 (HS.out.below HBW1.out) HX.out; have q3 : W1.cell? ⟨b, o + k * 2 + 1, none⟩ = some (iv x.b) := place_at1 (HS.out.below HBW1.out) HX.out; have lb1 := World.block_lt_of_cell? _ _ q2) | (at_builtin; refine wp_push (cs := DPlace.cs) (base := W.heap.size) rfl _ _ _ rfl (.agg #[iv 0, iv 0]) 16 Tryz.underlying34 info48 rfl (by decide) v1 ((pre ++ [p])) x rfl (HO1.out.alloc _) W1.heap.size 1 1 rfl rfl (0, 0) 48 (blk_new _ _) rfl (place_cells1 _) (by first | omega | (simp; omega)) (by decide) (alloc_ge HBW1.out.size _) ?_; intro v2 W2 hown' hgrow; have HO2 := Lib.hid hown'; have HBW2 : Hid (Below W.heap.size W W2) := bl_push (bl_alloc HBW1.out _) (HO1.out.alloc _) hgrow (Nat.le_refl _) (alloc_ge HBW1.out.size _); clear hown' hgrow))
            go_roundg (l.length - (k + 1))
            case measure => omega
            case rel => exact ⟨k + 1, by omega, rfl, by go_num, by rw [HT.out, HST.out], by unfold Hid; rw [HT.out, HST.out]; exact HO2.out, HBW2.out, HRL.out⟩
          · by_cases h2 : p.c = x.c
            · have h2t : (p.c == x.c) = true := by simp [h2]
              have H2 := Lib.hid h2
              clear h2
              by_cases h3 : p.b < x.b
              · have h3d : Hid (p.b < x.b) := h3
                go_quiet (fail)
                have HOQ : Hid (Own DPlace.cs 2 48 W.heap.size (V.drewN nq) u5 pre) := HOV.out.drewN _
                have HBQ : Hid (Below W.heap.size W (V.drewN nq)) := bl_drewN HBV.out _
                have q0' : (V.drewN nq).cell? ⟨b, o + k * 2, none⟩ = some (iv x.c) := q0
                have q1' : (V.drewN nq).cell? ⟨b, o + k * 2 + 1, none⟩ = some (iv x.b) := q1
                have e0' : (V.drewN nq).cell? ⟨w.heap.size, 0, none⟩ = some (iv p.c) := e0
                have e1' : (V.drewN nq).cell? ⟨w.heap.size, 1, none⟩ = some (iv p.b) := e1
                clear q0 q1 e0 e1 HOV HBV
                have HST : Hid (putStep p (pre, false) x = (pre ++ [p] ++ [x], true)) := putStep_in (ltP_true (.inr ⟨H2.out, h3d.out⟩))
                go_wp2_with (first | (at_builtin; refine wp_push (cs := DPlace.cs) (base := W.heap.size) rfl _ _ _ rfl (.agg #[iv 0, iv 0]) 16 Tryz.underlying34 info48 rfl (by decide) u5 (pre) p rfl (HOQ.out.alloc _) (V.drewN nq).heap.size 1 1 rfl rfl (0, 0) 48 (blk_new _ _) rfl (place_cells1 _) (by first | omega | (simp; omega)) (by decide) (alloc_ge HBQ.out.size _) ?_; intro v1 W1 hown' hgrow; have HO1 := Lib.hid hown'; have HBW1 : Hid (Below W.heap.size W W1) := bl_push (bl_alloc HBQ.out _) (HOQ.out.alloc _) hgrow (Nat.le_refl _) (alloc_ge HBQ.out.size _); clear hown' hgrow; have q2 : W1.cell? ⟨b, o + k * 2, none⟩ = some (iv x.c) := place_at0 (HS.out.below HBW1.out) HX.out; have q3 : W1.cell? ⟨b, o + k * 2 + 1, none⟩ = some (iv x.b) := place_at1 (HS.out.below HBW1.out) HX.out; have lb1 := World.block_lt_of_cell? _ _ q2) | (at_builtin; refine wp_push (cs := DPlace.cs) (base := W.heap.size) rfl _ _ _ rfl (.agg #[iv 0, iv 0]) 16 Tryz.underlying34 info48 rfl (by decide) v1 ((pre ++ [p])) x rfl (HO1.out.alloc _) W1.heap.size 1 1 rfl rfl (0, 0) 48 (blk_new _ _) rfl (place_cells1 _) (by first | omega | (simp; omega)) (by decide) (alloc_ge HBW1.out.size _) ?_; intro v2 W2 hown' hgrow; have HO2 := Lib.hid hown'; have HBW2 : Hid (Below W.heap.size W W2) := bl_push (bl_alloc HBW1.out _) (HO1.out.alloc _) hgrow (Nat.le_refl _) (alloc_ge HBW1.out.size _); clear hown' hgrow))
                go_roundg (l.length - (k + 1))
                case measure => omega
                case rel => exact ⟨k + 1, by omega, rfl, by go_num, by rw [HT.out, HST.out], by unfold Hid; rw [HT.out, HST.out]; exact HO2.out, HBW2.out, HRL.out⟩
              · have h3d : Hid (¬ p.b < x.b) := h3
                have h1d : Hid (¬ p.c < x.c) := h1
                go_quiet (fail)
                have HOQ : Hid (Own DPlace.cs 2 48 W.heap.size (V.drewN nq) u5 pre) := HOV.out.drewN _
                have HBQ : Hid (Below W.heap.size W (V.drewN nq)) := bl_drewN HBV.out _
                have q0' : (V.drewN nq).cell? ⟨b, o + k * 2, none⟩ = some (iv x.c) := q0
                have q1' : (V.drewN nq).cell? ⟨b, o + k * 2 + 1, none⟩ = some (iv x.b) := q1
                have e0' : (V.drewN nq).cell? ⟨w.heap.size, 0, none⟩ = some (iv p.c) := e0
                have e1' : (V.drewN nq).cell? ⟨w.heap.size, 1, none⟩ = some (iv p.b) := e1
                clear q0 q1 e0 e1 HOV HBV
                have HST : Hid (putStep p (pre, false) x = (pre ++ [x], false)) := putStep_out (.inr (ltP_false (fun h => h.elim h1d.out fun h => h3d.out h.2)))
                go_wp2_with (at_builtin; refine wp_push (cs := DPlace.cs) (base := W.heap.size) rfl _ _ _ rfl (.agg #[iv 0, iv 0]) 16 Tryz.underlying34 info48 rfl (by decide) u5 (pre) x rfl (HOQ.out.alloc _) (V.drewN nq).heap.size 1 1 rfl rfl (0, 0) 48 (blk_new _ _) rfl (place_cells1 _) (by first | omega | (simp; omega)) (by decide) (alloc_ge HBQ.out.size _) ?_; intro v1 W1 hown' hgrow; have HO1 := Lib.hid hown'; have HBW1 : Hid (Below W.heap.size W W1) := bl_push (bl_alloc HBQ.out _) (HOQ.out.alloc _) hgrow (Nat.le_refl _) (alloc_ge HBQ.out.size _); clear hown' hgrow)
                go_roundg (l.length - (k + 1))
                case measure => omega
                case rel => exact ⟨k + 1, by omega, rfl, by go_num, by rw [HT.out, HST.out], by unfold Hid; rw [HT.out, HST.out]; exact HO1.out, HBW1.out, HRL.out⟩
            · have h2f : (p.c == x.c) = false := by simp [h2]
              have H2 := Lib.hid h2
              have h1d : Hid (¬ p.c < x.c) := h1
              clear h2
              go_quiet (fail)
              have HOQ : Hid (Own DPlace.cs 2 48 W.heap.size (V.drewN nq) u5 pre) := HOV.out.drewN _
              have HBQ : Hid (Below W.heap.size W (V.drewN nq)) := bl_drewN HBV.out _
              have q0' : (V.drewN nq).cell? ⟨b, o + k * 2, none⟩ = some (iv x.c) := q0
              have q1' : (V.drewN nq).cell? ⟨b, o + k * 2 + 1, none⟩ = some (iv x.b) := q1
              have e0' : (V.drewN nq).cell? ⟨w.heap.size, 0, none⟩ = some (iv p.c) := e0
              have e1' : (V.drewN nq).cell? ⟨w.heap.size, 1, none⟩ = some (iv p.b) := e1
              clear q0 q1 e0 e1 HOV HBV
              have HST : Hid (putStep p (pre, false) x = (pre ++ [x], false)) := putStep_out (.inr (ltP_false (fun h => h.elim h1d.out fun h => H2.out h.1)))
              go_wp2_with (at_builtin; refine wp_push (cs := DPlace.cs) (base := W.heap.size) rfl _ _ _ rfl (.agg #[iv 0, iv 0]) 16 Tryz.underlying34 info48 rfl (by decide) u5 (pre) x rfl (HOQ.out.alloc _) (V.drewN nq).heap.size 1 1 rfl rfl (0, 0) 48 (blk_new _ _) rfl (place_cells1 _) (by first | omega | (simp; omega)) (by decide) (alloc_ge HBQ.out.size _) ?_; intro v1 W1 hown' hgrow; have HO1 := Lib.hid hown'; have HBW1 : Hid (Below W.heap.size W W1) := bl_push (bl_alloc HBQ.out _) (HOQ.out.alloc _) hgrow (Nat.le_refl _) (alloc_ge HBQ.out.size _); clear hown' hgrow)
              go_roundg (l.length - (k + 1))
              case measure => omega
              case rel => exact ⟨k + 1, by omega, rfl, by go_num, by rw [HT.out, HST.out], by unfold Hid; rw [HT.out, HST.out]; exact HO1.out, HBW1.out, HRL.out⟩
    · obtain rfl : k = l.length := by omega
      rw [List.take_length] at HPT
      have HNC : Hid (l.contains p = false) := not_contains H0.out
      have gp := blk_below g0.out HB.out
      obtain ⟨d0, d1⟩ := placeR_cells gp
      have lp := blk_lt gp
      clear gp
      cases dn with
      | true =>
        have HE : Hid (putL l p = pre) := by unfold Hid putL; rw [if_neg (by rw [HNC.out]; simp), HPT.out]; rfl
        go_wp2_with fail
        refine bodyPost_ret (v := u5) (by simp [results, Tryz.results139, go_sem]) rfl ⟨_, rfl, ?_, bl_step hB.out HB.out⟩
        rw [HE.out]; exact HO.out.slp (by omega)
      | false =>
        have HE : Hid (putL l p = pre ++ [p]) := by unfold Hid putL; rw [if_neg (by rw [HNC.out]; simp), HPT.out]; rfl
        go_wp2_with (at_builtin; refine wp_push (cs := DPlace.cs) (base := W.heap.size) rfl _ _ _ rfl (.agg #[iv 0, iv 0]) 16 Tryz.underlying34 info48 rfl (by decide) u5 (pre) p rfl (HO.out.alloc _) wr.heap.size 1 1 rfl rfl (0, 0) 48 (blk_new _ _) rfl (place_cells1 _) (by first | omega | (simp; omega)) (by decide) (alloc_ge HB.out.size _) ?_; intro v1 W1 hown' hgrow; have HO1 := Lib.hid hown'; have HBW1 : Hid (Below W.heap.size W W1) := bl_push (bl_alloc HB.out _) (HO.out.alloc _) hgrow (Nat.le_refl _) (alloc_ge HB.out.size _); clear hown' hgrow)
        refine bodyPost_ret (v := v1) (by simp [results, Tryz.results139, go_sem]) rfl ⟨_, rfl, ?_, bl_step hB.out HBW1.out⟩
        rw [HE.out]; exact HO1.out.slp (by simp; omega)
end Go.Proofs.YtjekioabkmijbaaGreatDoor
/- The reference's all and begun. -/
set_option linter.unusedVariables false
set_option linter.unusedSimpArgs false
namespace Go.Proofs.YtjekioabkmijbaaGreatDoor
open Go.RowKit
theorem allL_take {l : List DPlace} {xs : List DPlace} {k : Nat} {x : DPlace} (hx : xs[k]? = some x) : allL l (xs.take (k + 1)) = putL (allL l (xs.take k)) x := by
  rw [List.take_add_one, hx]; simp [allL]
set_option maxHeartbeats 2000000 in
set_option maxRecDepth 20000 in
/-- The lists are the places of sets. -/
theorem all_calls (m : Nat) (xs : List DPlace) (v u : Value) (w : World) (hx : okL xs) (hl : xs.length ≤ 1000) (h1 : SlP w v (placesOf m)) (h2 : Sl DPlace.cs 2 w u xs) :
    Calls Tryz.prog 128 #[v, u] w fun e w' => ∃ v', e = .returned v' ∧ SlP w' v' (allL (placesOf m) xs) ∧ Below w.heap.size w w' := by
  obtain ⟨B, d, rfl, hd, hm⟩ := h2.open_
  have H1 := Lib.hid h1
  have H2 := Lib.hid h2
  have HX := Lib.hid hx
  clear h1 h2 hx
  go_enter Tryz.func128, Tryz.ntmps128
  go_wp2_with fail
  go_loopg [0, 5] xs.length (fun n u0 i wr => ∃ k : Nat, k ≤ xs.length ∧ n = xs.length - k ∧ i = .int .i64 k ∧ Hid (SlP wr u0 (allL (placesOf m) (xs.take k))) ∧ Hid (∃ m', allL (placesOf m) (xs.take k) = placesOf m') ∧ Hid (Below w.heap.size w wr))
  case atStart => exact ⟨0, by omega, by omega, rfl, H1.out, ⟨m, rfl⟩, Below.refl _ _⟩
  case round =>
    obtain ⟨k, hk, hn, rfl, HO, HP, HB⟩ := hrel
    by_cases hlt : k < xs.length
    · have hx : xs[k]? = some xs[k] := List.getElem?_eq_getElem hlt
      obtain ⟨x, hxe⟩ : ∃ x, x = xs[k] := ⟨_, rfl⟩
      rw [← hxe] at hx
      clear hxe
      obtain ⟨b, o, rfl, c0, c1⟩ := (H2.out.below HB.out).place k _ hx
      have HT := Lib.hid (allL_take (l := placesOf m) hx)
      have hok : okP x := HX.out x (List.mem_of_getElem? hx)
      obtain ⟨m', hm'⟩ := HP.out
      have HP2 : Hid (∃ m'', allL (placesOf m) (xs.take (k + 1)) = placesOf m'') := ⟨m' ||| bit x, by rw [HT.out, hm', putL_places hok]⟩
      have l1 : (k : Int) < (xs.length : Int) := by omega
      have hpl := places_len m'
      rw [hm'] at HO HT
      have HC := Lib.hid (put_calls (placesOf m') x u0 wr (by omega) HO.out)
      clear hx hok hm' hpl
      go_wp2_with fail
      refine HC.out.mono ?_
      rintro e w2 ⟨v', rfl, ho, hb2⟩
      have HO2 := Lib.hid ho
      have HB2 := Lib.hid (bl_step HB.out hb2)
      clear ho hb2 c0 c1
      go_wp2_with fail
      go_roundg (xs.length - (k + 1))
      case measure => omega
      case rel => exact ⟨k + 1, by omega, rfl, by go_num, by unfold Hid; rw [HT.out]; exact HO2.out, HP2.out, HB2.out⟩
    · obtain rfl : k = xs.length := by omega
      rw [List.take_length] at HO
      go_wp2_with fail
      refine bodyPost_ret (v := u0) (by simp [results, Tryz.results128, go_sem]) rfl ⟨_, rfl, HO.out, HB.out⟩
set_option maxHeartbeats 4000000 in
set_option maxRecDepth 20000 in
theorem begunR_calls (x : DLoss) (h : Int) (w : World) (hx : 0 ≤ x.cl ∧ x.ch ≤ 39 ∧ 0 ≤ x.bl ∧ x.bh ≤ 6) :
    Calls Tryz.prog 134 #[lossV x, iv h] w fun e w' => ∃ v', e = .returned v' ∧ SlP w' v' (placesOf (begunM x h)) ∧ Below w.heap.size w w' := by
  obtain ⟨x1, x2, x3, x4⟩ := hx
  by_cases hh : x.hl ≤ h ∧ h ≤ x.hh
  · have HM := Lib.hid (begunM_eq x h hh)
    obtain ⟨hh1, hh2⟩ := hh
    go_enter Tryz.func134, Tryz.ntmps134
    go_wp2_with fail
    refine wp_abs (fun W hW => ?_)
    have g0 : Hid (W.heap[w.heap.size]? = some (.cells (lossA x) 30 (0, 0))) := by unfold Hid; rw [hW]; exact blk_new _ _
    have hB : Hid (Below w.heap.size w W) := by unfold Hid; rw [hW]; exact bl_alloc (Below.refl _ _) _
    clear hW
    obtain ⟨d0, d1, d2, d3, d4, d5, d6⟩ := loss_cells g0.out
    have l0 := blk_lt g0.out
    go_wp2_with fail
    go_loopg [5, 6] (x.ch + 1 - x.cl).toNat (fun n u i wr => ∃ k : Nat, n = (x.ch + 1 - x.cl).toNat - k ∧ Hid (k ≤ (x.ch + 1 - x.cl).toNat) ∧ i = .int .i64 (x.cl + k) ∧ Hid (SlP wr u (placesOf ((pfx x.cl k).foldl (fun m c => begunRow x c m) 0))) ∧ Hid (Below W.heap.size W wr))
    case atStart => exact ⟨0, rfl, Nat.zero_le _, by simp, by unfold Hid; rw [show (pfx x.cl 0).foldl (fun m c => begunRow x c m) 0 = 0 from rfl, places_zero]; exact SlP.nil _, Below.refl _ _⟩
    case round =>
      clear d0 d1 d2 d3 d4 d5 d6 l0
      obtain ⟨k, hn, hk, rfl, HO, HB⟩ := hrel
      have hk := hk.out
      obtain ⟨d0, d1, d2, d3, d4, d5, d6⟩ := loss_cells (blk_below g0.out HB.out)
      have l0 := blk_lt (blk_below g0.out HB.out)
      by_cases hlt : x.cl + k ≤ x.ch
      · obtain ⟨M, hM⟩ : ∃ q, q = (pfx x.cl k).foldl (fun m c => begunRow x c m) 0 := ⟨_, rfl⟩
        rw [← hM] at HO
        have HMM := Lib.hid hM
        clear hM
        go_wp2_with fail
        go_loopg [5, 7] (x.bh + 1 - x.bl).toNat (fun n u i wr => ∃ j : Nat, n = (x.bh + 1 - x.bl).toNat - j ∧ Hid (j ≤ (x.bh + 1 - x.bl).toNat) ∧ i = .int .i64 (x.bl + j) ∧ Hid (SlP wr u (placesOf ((pfx x.bl j).foldl (fun m b => m ||| bit ⟨x.cl + k, b⟩) M))) ∧ Hid (Below W.heap.size W wr))
        case atStart => exact ⟨0, rfl, Nat.zero_le _, by simp, HO.out, HB.out⟩
        case round =>
          clear d0 d1 d2 d3 d4 d5 d6 l0 HO HB
          obtain ⟨j, hn2, hj, rfl, HO, HB⟩ := hrel
          have hj := hj.out
          obtain ⟨d0, d1, d2, d3, d4, d5, d6⟩ := loss_cells (blk_below g0.out HB.out)
          have l0 := blk_lt (blk_below g0.out HB.out)
          by_cases hlt2 : x.bl + j ≤ x.bh
          · have hp : okP ⟨x.cl + k, x.bl + j⟩ := ⟨by show 0 ≤ x.cl + k; omega, by show x.cl + k ≤ 39; omega, by show 0 ≤ x.bl + j; omega, by show x.bl + j ≤ 6; omega⟩
            have hpl := places_len ((pfx x.bl j).foldl (fun m b => m ||| bit ⟨x.cl + k, b⟩) M)
            have HC := Lib.hid (put_calls _ ⟨x.cl + k, x.bl + j⟩ _ _ (by omega) HO.out)
            rw [putL_places hp, ← fold_snoc (fun m b => m ||| bit ⟨x.cl + k, b⟩)] at HC
            clear hp hpl
            go_wp2_with fail
            refine HC.out.mono ?_
            rintro e w2 ⟨v', rfl, ho, hb2⟩
            have HO2 := Lib.hid ho
            have HB2 := Lib.hid (bl_step HB.out hb2)
            clear ho hb2 d0 d1 d2 d3 d4 d5 d6 l0
            go_wp2_with fail
            go_roundg ((x.bh + 1 - x.bl).toNat - (j + 1))
            case measure => omega
            case rel => exact ⟨j + 1, rfl, by show j + 1 ≤ _; omega, by go_num, HO2.out, HB2.out⟩
          · go_wp2_with fail
            have ej : j = (x.bh + 1 - x.bl).toNat := by omega
            go_roundg ((x.ch + 1 - x.cl).toNat - (k + 1))
            case measure => omega
            case rel => exact ⟨k + 1, rfl, by show k + 1 ≤ _; omega, by go_num, by unfold Hid; rw [fold_snoc, ← HMM.out]; have := HO.out; rw [ej] at this; exact this, HB.out⟩
      · have ek : k = (x.ch + 1 - x.cl).toNat := by omega
        have HM' : Hid (begunM x h = (pfx x.cl k).foldl (fun m c => begunRow x c m) 0) := by rw [ek]; exact HM.out
        clear HM ek
        go_wp2_with fail
        refine bodyPost_ret (v := u5) (by simp [results, Tryz.results134, go_sem]) rfl ⟨_, rfl, by rw [HM'.out]; exact HO.out, bl_step hB.out HB.out⟩
  · have HM : Hid (begunM x h = 0) := by unfold Hid begunM; rw [if_neg hh]
    go_enter Tryz.func134, Tryz.ntmps134
    go_wp2_with fail
    refine wp_abs (fun W hW => ?_)
    have g0 : Hid (W.heap[w.heap.size]? = some (.cells (lossA x) 30 (0, 0))) := by unfold Hid; rw [hW]; exact blk_new _ _
    have hB : Hid (Below w.heap.size w W) := by unfold Hid; rw [hW]; exact bl_alloc (Below.refl _ _) _
    clear hW
    obtain ⟨d0, d1, d2, d3, d4, d5, d6⟩ := loss_cells g0.out
    have l0 := blk_lt g0.out
    go_wp2_with fail
    go_loopg [5, 6] 0 (fun n u i wr => n = 0 ∧ u = .slice none 0 0 ∧ i = .int .i64 x.cl ∧ Hid (wr = W))
    case atStart => exact ⟨rfl, rfl, rfl, rfl⟩
    case round =>
      obtain ⟨hn, rfl, rfl, HV⟩ := hrel
      have hv := HV.out
      subst hv
      by_cases h1 : x.cl ≤ x.ch
      · by_cases h2 : x.hl ≤ h
        · have h3 : ¬ h ≤ x.hh := fun h' => hh ⟨h2, h'⟩
          clear hh
          go_wp2_with fail
          refine bodyPost_ret (v := .slice none 0 0) (by simp [results, Tryz.results134, go_sem]) rfl ⟨_, rfl, by rw [HM.out, places_zero]; exact SlP.nil _, hB.out⟩
        · clear hh
          go_wp2_with fail
          refine bodyPost_ret (v := .slice none 0 0) (by simp [results, Tryz.results134, go_sem]) rfl ⟨_, rfl, by rw [HM.out, places_zero]; exact SlP.nil _, hB.out⟩
      · clear hh
        go_wp2_with fail
        refine bodyPost_ret (v := .slice none 0 0) (by simp [results, Tryz.results134, go_sem]) rfl ⟨_, rfl, by rw [HM.out, places_zero]; exact SlP.nil _, hB.out⟩
end Go.Proofs.YtjekioabkmijbaaGreatDoor
