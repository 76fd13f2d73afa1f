/- BarTo. -/
import Derived.Test.YtjekioabkmijbaaGreatDoorZ17
import Derived.Test.YtjekioabkmijbaaGreatDoorZ19
import Derived.Test.YtjekioabkmijbaaGreatDoorZ14
import Derived.Test.YtjekioabkmijbaaGreatDoorZ16
set_option linter.unusedVariables false
set_option linter.unusedSimpArgs false
namespace Go.Proofs.YtjekioabkmijbaaGreatDoor
open Go.RowKit Go.Shelf
attribute [local go_sem] Oper.semAt_some
theorem sees_of {W V : World} (h : Below W.heap.size W V) : (∀ b o, b < W.heap.size → V.cell? ⟨b, o, none⟩ = W.cell? ⟨b, o, none⟩) ∧ Hid (Below W.heap.size W V) := ⟨fun b o hl => h.cell (p := ⟨b, o, none⟩) hl, h⟩
theorem place_cells {W : World} {g : Nat} {p : DPlace} {f : Nat × Nat} (h : W.heap[g]? = some (.cells #[iv p.c, iv p.b] 48 f)) : W.cell? ⟨g, 0, none⟩ = some (iv p.c) ∧ W.cell? ⟨g, 1, none⟩ = some (iv p.b) := ⟨blk_cell h 0, blk_cell h 1⟩
theorem blk_set1 {w : World} {g : Nat} {t : TypeId} {f : Nat × Nat} {a0 : Value} (h : w.heap[g]? = some (.cells #[a0] t f)) (u0 : Value) : (w.setCell ⟨g, 0, none⟩ u0).heap[g]? = some (.cells #[u0] t f) := by
  have := blk_set h 0 u0
  simpa using this
theorem OwnRows.set {base : Nat} {w : World} {v : Value} {xss : List (List DPlace)} (h : OwnRows base w v xss) {p : Addr} (hp : base ≤ p.block → False) (u : Value) : OwnRows base (w.setCell p u) v xss := by
  obtain ⟨vs, ho, hl, hr⟩ := h
  exact ⟨vs, ho.set (fun e => hp (ho.lt _ e).1) u, hl, fun i z xs h1 h2 => (hr i z xs h1 h2).set (fun e => hp ((hr i z xs h1 h2).lt _ e).1) u⟩
/-- The last of the sets is where a package can be at the hour. -/
theorem sets_last {s : DSea} {ws : List DWind} {f : Int} {x : DLoss} {h : Int} (hle : x.hl ≤ h) : (setsOf s ws f x h).length = (h - x.hl).toNat + 1 ∧ (setsOf s ws f x h)[(h - x.hl).toNat]? = some (reachM s ws f x h) := by
  have hN : hoursN x h = (h - x.hl).toNat + 1 := by unfold hoursN; omega
  constructor
  · unfold setsOf; rw [List.length_map, List.length_range, hN]
  · unfold setsOf; rw [List.getElem?_map, List.getElem?_range (by omega)]; rfl
def barIs (s : DSea) (l : List DWind) (known f : Int) (x : DLoss) (p : DPlace) (h : Int) : Bool := decide (errAsk s l x f (some p) h = 0) && !hasM (reachM s (counting l known) f x h) p
def barL (s : DSea) (l : List DWind) (known f : Int) (x : DLoss) (p : DPlace) (h : Int) : List (List DPlace) := if barIs s l known f x p h then (setsOf s (counting l known) f x h).map placesOf else []
set_option maxHeartbeats 2000000 in
set_option maxRecDepth 20000 in
theorem barTo_calls (s : DSea) (l : List DWind) (x : DLoss) (p : DPlace) (known f h : Int) (vh vt vl : Value) (w : World) (hf : 0 ≤ f ∧ f ≤ 255) (h1 : Sl intCs 1 w vh s.hts) (h2 : Sl DTide.cs 2 w vt s.tds) (h3 : Sl DWind.cs 9 w vl l) :
    Calls Tryz.prog 74 #[.agg #[iv s.cells, iv s.bands, vh, vt], vl, iv known, lossV x, .int .u8 f, placeV p, iv h] w fun e w' =>
      ∃ v, e = .returned (.tuple #[.agg #[v], .bool (barIs s l known f x p h), iv (errAsk s l x f (some p) h)]) ∧ OwnRows w.heap.size w' v (barL s l known f x p h) ∧ Below w.heap.size w w' := by
  obtain ⟨A1, k1, rfl, hk1, hlk1⟩ := h1.open_
  obtain ⟨A2, k2, rfl, hk2, hlk2⟩ := h2.open_
  have H1 := Lib.hid h1
  have H2 := Lib.hid h2
  have H3 := Lib.hid h3
  clear h1 h2 h3
  obtain ⟨er, her⟩ : ∃ q, q = errAsk s l x f (some p) h := ⟨_, rfl⟩
  rw [← her]
  go_enter Tryz.func74, Tryz.ntmps74
  go_wp2_with fail
  refine calls_abs (fun W0 hW0 => ?_)
  have g1 : W0.heap[w.heap.size + 1]? = some (.cells (lossA x) 30 (0, 0)) := by rw [hW0]; exact blk_alloc (blk_alloc (blk_at _ (by simp)) _) _
  have gp : W0.heap[w.heap.size + 1 + 1]? = some (.cells #[iv p.c, iv p.b] 48 (0, 0)) := by rw [hW0]; exact blk_alloc (blk_at _ (by simp)) _
  have gz : W0.heap[w.heap.size + 1 + 1 + 1]? = some (.cells #[.slice none 0 0] 98 (0, 0)) := by rw [hW0]; exact blk_at _ (by simp)
  have hB : Below w.heap.size w W0 := by rw [hW0]; exact bl_alloc (bl_alloc (bl_alloc (bl_alloc (Below.refl _ _) _) _) _) _
  clear hW0
  by_cases he : er = 0
  · rw [he] at her
    subst he
    have he := her.symm
    have HF := Lib.hid (ask_facts he)
    have hokp : okP p := okP_of HF.out.sea (ask_place he)
    have HOK := Lib.hid hokp
    have HBI : Hid (barIs s l known f x p h = !hasM (reachM s (counting l known) f x h) p) := by unfold Hid barIs; rw [he]; simp
    have HBL : Hid (barL s l known f x p h = if (!hasM (reachM s (counting l known) f x h) p) = true then (setsOf s (counting l known) f x h).map placesOf else []) := by unfold Hid barL; rw [HBI.out]
    refine (askedP_ok s l x p known f h _ _ vl _ W0 hf (H1.out.below hB) (H2.out.below hB) (H3.out.below hB) gp he).mono ?_
    rintro e w1 ⟨A3, n3, c3, rfl, hk, hb1⟩
    have HK := Lib.hid hk
    have G1 := Lib.hid (blk_below g1 hb1)
    have GP := Lib.hid (blk_below gp hb1)
    have GZ := Lib.hid (blk_below gz hb1)
    have HB1 := Lib.hid (bl_step hB hb1)
    obtain ⟨d0, d1, d2, d3, d4, d5, d6⟩ := loss_cells G1.out
    have l1 := blk_lt G1.out
    clear hk hb1 g1 gp gz hB he hokp her
    go_wp2_with fail
    refine calls_abs (fun W2 hW2 => ?_)
    have hb2 : Below w1.heap.size w1 W2 := by rw [hW2]; exact bl_alloc (Below.refl _ _) _
    clear hW2
    refine (sets_calls s _ f _ _ _ x h W2 (HK.out.below hb2) HF.out.loss HF.out.hour.2).mono ?_
    rintro e w3 ⟨v, rfl, ho, hb3⟩
    obtain ⟨hsl, hsg⟩ := sets_last (s := s) (ws := counting l known) (f := f) HF.out.near.1
    have hnear := HF.out.near
    obtain ⟨q, hq⟩ : ∃ q, q = (h - x.hl).toNat := ⟨_, rfl⟩
    have hqb : q ≤ 200 := by omega
    rw [← hq] at hsl hsg
    obtain ⟨SS, hSS⟩ : ∃ SS, SS = setsOf s (counting l known) f x h := ⟨_, rfl⟩
    obtain ⟨M, hM⟩ : ∃ M, M = reachM s (counting l known) f x h := ⟨_, rfl⟩
    rw [← hSS] at ho hsl hsg HBL
    rw [← hM] at hsg HBI HBL
    obtain ⟨A, c, rfl⟩ := ho.slice
    have hs1 : Sl setCs 5 w3 (.slice A SS.length c) SS := ho.sl (fun _ => rfl) (by omega)
    obtain ⟨b, o, rfl, r0, r1, r2, r3, r4⟩ := hs1.set q _ hsg
    have HS1 := Lib.hid hs1
    have hb23 := bl_step hb2 hb3
    have gp3 := blk_below GP.out hb23
    obtain ⟨p0, p1⟩ := place_cells gp3
    have lp := blk_lt gp3
    have lr := World.block_lt_of_cell? w3 _ r0
    have GZ3 := Lib.hid (blk_below GZ.out hb23)
    have HB3 := Lib.hid (bl_step HB1.out hb23)
    have HSL := Lib.hid hsl
    clear hb2 hb3 hb23 d0 d1 d2 d3 d4 d5 d6 gp3 ho hs1 hsg hq hSS hM hsl
    rw [HSL.out]
    go_wp2_with fail
    have i1 : IntKind.i64.wrap (q : Int) = (q : Int) := IntWalk.i64_in _ ⟨by omega, by omega⟩
    have i2 : IntKind.i64.wrap ((q : Int) + 1 - 1) = (q : Int) := by rw [show (q : Int) + 1 - 1 = (q : Int) by omega]; exact i1
    have i3 : (0 : Int) ≤ (q : Int) := by omega
    have i4 : (q : Int) < (q : Int) + 1 := by omega
    go_region_held3 (fun V => (∀ b o, b < w3.heap.size → V.cell? ⟨b, o, none⟩ = w3.cell? ⟨b, o, none⟩) ∧ Hid (Below w3.heap.size w3 V)) (first | exact sees_start w3 | exact sees_step (by assumption) hb7) (first | (go_at_call 86; refine (has_calls M p _ HOK.out).mono ?_; rintro e w' ⟨rfl, hb7⟩))
    rename _ ∧ Hid (Below w3.heap.size w3 _) => hAnd
    have hbx := hAnd.2.out
    rename_i w4
    have HBX := Lib.hid hbx
    have GZ4 := Lib.hid (blk_below GZ3.out hbx)
    have HB4 := Lib.hid (bl_step HB3.out hbx)
    have lz := blk_lt GZ4.out
    have z0 := blk_cell GZ4.out 0
    simp only [List.getElem?_toArray, List.getElem?_cons_zero] at z0
    have zf := blk_frozen GZ4.out 0
    clear hAnd hbx hb7 i1 i2 i3 i4 p0 p1 r0 r1 r2 r3 r4
    have HS4 := Lib.hid (HS1.out.below HBX.out)
    have hSb : SS.length ≤ 1000000 := by rw [HSL.out]; omega
    have HSb := Lib.hid hSb
    rw [HSL.out] at HS4
    obtain ⟨hb, hhb⟩ : ∃ q, q = hasM M p := ⟨_, rfl⟩
    rw [← hhb] at HBI HBL ⊢
    clear hhb hSb
    cases hb with
    | true =>
      go_wp2_with fail
      refine wp_abs_post (fun U hU => ?_)
      have gU : U.heap[w.heap.size + 1 + 1 + 1]? = some (.cells #[.slice none 0 0] 98 (0, 0)) := by rw [hU]; exact blk_set1 GZ4.out _
      have hbU : Below w.heap.size w U := by
        rw [hU]
        have hbx := HB4.out
        repeat (first | (with_reducible exact hbx) | refine Below.setCell ?_ (by first | (simp; done) | (simp; omega)) _)
      clear hU z0
      have z0 := blk_cell gU 0
      simp only [List.getElem?_toArray, List.getElem?_cons_zero] at z0
      refine bodyPost_ret (v := .tuple #[.agg #[.slice none 0 0], .bool false, iv 0]) (by simp [results, Tryz.results74, go_sem, z0]) rfl ⟨_, by rw [HBI.out]; rfl, ?_, hbU⟩
      rw [HBL.out]
      exact OwnRows.nil _ _
    | false =>
      go_wp2_with fail
      refine (mapped142_calls SS _ _ HS4.out HSb.out).mono ?_
      rintro e w5 ⟨v, rfl, hov, hb5⟩
      have HOV := Lib.hid hov
      have HB5 := Lib.hid (bl_step HB4.out hb5)
      have GZ5 := Lib.hid (blk_below GZ4.out hb5)
      have lz := blk_lt GZ5.out
      have hvs : ∃ A n c, v = .slice A n c := by
        obtain ⟨vs, hq, _⟩ := hov
        obtain ⟨A, c, rfl⟩ := hq.slice
        exact ⟨_, _, _, rfl⟩
      obtain ⟨vA, vn, vc, rfl⟩ := hvs
      clear z0 zf hov hb5
      have z0 := blk_cell GZ5.out 0
      simp only [List.getElem?_toArray, List.getElem?_cons_zero] at z0
      have zf := blk_frozen GZ5.out 0
      go_wp2_with fail
      refine wp_abs_post (fun U hU => ?_)
      have gU : U.heap[w.heap.size + 1 + 1 + 1]? = some (.cells #[.slice vA vn vc] 98 (0, 0)) := by rw [hU]; exact blk_set1 GZ5.out _
      have hbU : Below w.heap.size w U := by
        rw [hU]
        have hbx := HB5.out
        repeat (first | (with_reducible exact hbx) | refine Below.setCell ?_ (by first | (simp; done) | (simp; omega)) _)
      have hoU : OwnRows w.heap.size U (.slice vA vn vc) (SS.map placesOf) := by
        rw [hU]
        refine (HOV.out.set (fun h => by simp at h; omega) _).mono HB4.out.size
      clear hU z0 zf
      have z0 := blk_cell gU 0
      simp only [List.getElem?_toArray, List.getElem?_cons_zero] at z0
      refine bodyPost_ret (v := .tuple #[.agg #[.slice vA vn vc], .bool true, iv 0]) (by simp [results, Tryz.results74, go_sem, z0]) rfl ⟨_, by rw [HBI.out]; rfl, ?_, hbU⟩
      rw [HBL.out]
      exact hoU
  · have HBI : Hid (barIs s l known f x p h = false) := by unfold Hid barIs; rw [← her]; simp [he]
    have HBL : Hid (barL s l known f x p h = []) := by unfold Hid barL; rw [HBI.out]; rfl
    have HC := askedP_bad s l x p known f h _ _ vl _ W0 hf (H1.out.below hB) (H2.out.below hB) (H3.out.below hB) gp
    rw [← her] at HC
    have h0' : (er != 0) = true := by simp [bne, he]
    refine HC.mono ?_
    rintro e w1 ⟨q0, q1, B2, n2, c2, B3, n3, c3, B4, n4, c4, q5, rfl, hb1⟩
    have HB1 := Lib.hid (bl_step hB hb1)
    have GZ := Lib.hid (blk_below gz hb1)
    have lz := blk_lt GZ.out
    have z0 := blk_cell GZ.out 0
    simp only [List.getElem?_toArray, List.getElem?_cons_zero] at z0
    have zf := blk_frozen GZ.out 0
    clear he her HC hb1 g1 gp gz hB
    go_wp2_with fail
    refine wp_abs_post (fun U hU => ?_)
    have gU : U.heap[w.heap.size + 1 + 1 + 1]? = some (.cells #[.slice none 0 0] 98 (0, 0)) := by rw [hU]; exact blk_alloc (blk_set1 GZ.out _) _
    have hbU : Below w.heap.size w U := by
      rw [hU]
      refine Below.alloc ?_ (by have := HB1.out.size; simp; omega) _
      have hbx := HB1.out
      repeat (first | (with_reducible exact hbx) | refine Below.setCell ?_ (by first | (simp; done) | (simp; omega)) _)
    clear hU z0 zf
    have z0 := blk_cell gU 0
    simp only [List.getElem?_toArray, List.getElem?_cons_zero] at z0
    refine bodyPost_ret (v := .tuple #[.agg #[.slice none 0 0], .bool false, iv er]) (by simp [results, Tryz.results74, go_sem, z0]) rfl ⟨_, by rw [HBI.out], ?_, hbU⟩
    rw [HBL.out]
    exact OwnRows.nil _ _
end Go.Proofs.YtjekioabkmijbaaGreatDoor
/- slices.Delete of one wind. -/
set_option linter.unusedVariables false
set_option linter.unusedSimpArgs false
namespace Go.Proofs.YtjekioabkmijbaaGreatDoor
open Go.RowKit
theorem Own.part {base g n c : Nat} {w : World} {xs : List DWind} (h : Own DWind.cs 9 53 base w (.slice (some ⟨g, 0, none⟩) n c) xs) (i : Nat) (hi : i ≤ xs.length) : Own DWind.cs 9 53 base w (.slice (some ⟨g, 0, none⟩) i c) (xs.take i) := by
  rcases h.2 with ⟨h1, h2⟩ | ⟨g', cap, cur, e, hb, hg, hn, hc, hs, ht⟩
  · simp at h1
  · injection e with e1 e2 e3
    cases e1; subst e3
    have hl : (xs.take i).length = i := by rw [List.length_take]; omega
    refine ⟨by rw [flatMap_len (cs := DWind.cs) (k := 9) (fun _ => rfl)], .inr ⟨g, c, cur, by rw [hl], hb, hg, by omega, hc, hs, ?_⟩⟩
    have hr := rows_of ht
    exact rows_take (xs := xs.take i) (fun r x hx => hr r x (by rw [List.getElem?_take] at hx; split at hx; exact hx; cases hx)) (by rw [hl, hs]; omega)
theorem step_append_fits {P : Program} {ops : Array Oper} {o : Oper} {a : Act} {w : World} {K : Act → World → Prop} {Q : Exit → Act → World → Prop} {E : Prop}
    (hg : o.guard = none) (s x : Operand) (t : TypeId) (hop : o.op = Op.call { callee := Callee.builtin Builtin.append, args := #[s, x], argTypes := #[t, t] })
    (base : Nat) (e : TypeId) (i : TypeInfo) (size : Nat) (h1 : P.underlying t = some (.slice e)) (h2 : P.info? e = some i) (h4 : i.size = size)
    (g n cap : Nat) (xs : List Value) (hs : a.eval s = .slice (some ⟨g, 0, none⟩) n cap) (hown : w.ownsRow base e size (.slice (some ⟨g, 0, none⟩) n cap) n xs)
    (ad : Addr) (m c : Nat) (news : List Value) (hx : a.eval x = .slice (some ad) m c) (hn : news.length = m * size) (hc : ∀ j u, news[j]? = some u → w.cell? (ad.add j) = some u) (h1c : ∀ u ∈ news, u.oneCell' = true)
    (hroom : n + m ≤ cap)
    (hK : ∀ w', w'.ownsRow base e size (.slice (some ⟨g, 0, none⟩) (n + m) cap) (n + m) (xs ++ news) → w.grownBy w' (some g) → K (a.put o.dst (.slice (some ⟨g, 0, none⟩) (n + m) cap)) w') :
    if Region.wanted o (yielded ops a.tmps) = true then Oper.wp P o a w K Q else E := by
  have hw : Region.wanted o (yielded ops a.tmps) = true := by simp [Region.wanted, hg]
  rw [if_pos hw]
  obtain ⟨w', hrun, r1, r2⟩ := run_append_fits (P := P) (w := w) base t o.type e i size h1 h2 h4 g n cap xs hown ad m c news hn hc h1c hroom
  unfold Oper.wp
  simp [execOp, hop, resolve, invoke, builtin, hs, hx, hrun, Result.andThen]
  exact hK w' r1 r2
theorem clear_zero (w : World) (A : Option Addr) (c : Nat) (ty : TypeId) : (Builtin.clear_ #[26] ty #[.slice A 0 c]).run Tryz.prog w = .ok (.tuple #[]) w := by
  cases A <;> simp [Builtin.clear_, run_underlying Tryz.underlying26, go_sem]
set_option maxHeartbeats 2000000 in
set_option maxRecDepth 20000 in
theorem delete88_calls (xs : List DWind) (v : Value) (base : Nat) (i : Nat) (w : World) (h : Own DWind.cs 9 53 base w v xs) (hi : i < xs.length) (hl : xs.length ≤ 1000000) :
    Calls Tryz.prog 88 #[v, iv (i : Nat), iv ((i : Int) + 1)] w fun e w' => ∃ v', e = .returned v' ∧ Own DWind.cs 9 53 base w' v' (xs.eraseIdx i) ∧ w.grownBy w' v.ownBlock := by
  have hO := h
  rcases h.2 with ⟨h1, h2⟩ | ⟨g, cap, cur, rfl, hb, hg, hn, hc, hs, ht⟩
  · omega
  have HO := Lib.hid hO
  have HG := Lib.hid hg
  have hcap : cap ≤ 9223372036854775807 := by unfold maxLen at hc; exact hc
  have HC := Lib.hid hc
  have HS := Lib.hid hs
  have HT := Lib.hid ht
  have gl := blk_lt hg
  obtain ⟨n, hnn⟩ : ∃ n, n = xs.length := ⟨_, rfl⟩
  rw [← hnn] at hi hl hn HO ⊢
  have HN := Lib.hid hnn
  clear h hO hg ht hs hc hnn
  have ki : (i : Int) < (n : Int) := by omega
  have ki1 : (i : Int) + 1 ≤ (n : Int) := by omega
  have ki2 : i + 1 ≤ n := by omega
  have ki3 : i ≤ cap := by omega
  have ki4 : i + 1 ≤ cap := by omega
  have ki5 : (i : Int) + 1 ≤ (cap : Int) := by omega
  have kn : (n : Int) ≤ (cap : Int) := by omega
  have e1 : ((i : Int) == (i : Int) + 1) = false := by simp; omega
  go_enter Tryz.func88, Tryz.ntmps88
  go_wp2_with fail
  obtain ⟨A2, hA2⟩ : ∃ A2 : Addr, A2 = if cap = i + 1 then ⟨g, 0, none⟩ else ⟨g, (i + 1) * 9, none⟩ := ⟨_, rfl⟩
  have hsl : ∀ U, (Instr.slice 26 (.slice (some ⟨g, 0, none⟩) n cap) (some (iv ((i : Int) + 1))) none none).run Tryz.prog U = .ok (.slice (some A2) (n - (i + 1)) (cap - (i + 1))) U := by
    intro U
    rw [hA2]
    by_cases hq : cap = i + 1
    · subst hq; simp [go_sem]; intro hx; exact absurd (hx (by omega)) (by omega)
    · simp [go_sem, hq]; intro hx; exact absurd (hx (by omega)) (by omega)
  refine wp_region_held_drew (S := fun _ => True) (by kernel_rfl) trivial (fun hHeld => ?_)
  refine wpAnyH_take (i := 0) (v := .slice (some ⟨g, 0, none⟩) n cap) rfl (by kernel_rfl) (by kernel_rfl) (by kernel_rfl) (fun _ _ _ h => h) (Or.inl ⟨by rfl, ?_⟩) (by assumption) ?_
  · intro U hSw; go_simp
  try simp only [Act.put, List.setIfInBounds_toArray, List.set_cons_zero, List.set_cons_succ]
  refine wpAnyH_take (i := 1) (v := iv i) rfl (by kernel_rfl) (by kernel_rfl) (by kernel_rfl) (fun _ _ _ h => h) (Or.inl ⟨by rfl, ?_⟩) (by assumption) ?_
  · intro U hSw; go_simp
  try simp only [Act.put, List.setIfInBounds_toArray, List.set_cons_zero, List.set_cons_succ]
  refine wpAnyH_take (i := 2) (v := .slice (some ⟨g, 0, none⟩) i cap) rfl (by kernel_rfl) (by kernel_rfl) (by kernel_rfl) (fun _ _ _ h => h) (Or.inl ⟨by rfl, ?_⟩) (by assumption) ?_
  · intro U hSw; go_simp
  try simp only [Act.put, List.setIfInBounds_toArray, List.set_cons_zero, List.set_cons_succ]
  refine wpAnyH_take (i := 3) (v := .slice (some ⟨g, 0, none⟩) n cap) rfl (by kernel_rfl) (by kernel_rfl) (by kernel_rfl) (fun _ _ _ h => h) (Or.inl ⟨by rfl, ?_⟩) (by assumption) ?_
  · intro U hSw; go_simp
  try simp only [Act.put, List.setIfInBounds_toArray, List.set_cons_zero, List.set_cons_succ]
  refine wpAnyH_take (i := 4) (v := iv ((i : Int) + 1)) rfl (by kernel_rfl) (by kernel_rfl) (by kernel_rfl) (fun _ _ _ h => h) (Or.inl ⟨by rfl, ?_⟩) (by assumption) ?_
  · intro U hSw; go_simp
  try simp only [Act.put, List.setIfInBounds_toArray, List.set_cons_zero, List.set_cons_succ]
  refine wpAnyH_take (i := 5) (v := .slice (some A2) (n - (i + 1)) (cap - (i + 1))) rfl (by kernel_rfl) (by kernel_rfl) (by kernel_rfl) (fun _ _ _ h => h) (Or.inl ⟨by rfl, ?_⟩) (by assumption) ?_
  · intro U hSw; go_simp
  try simp only [Act.put, List.setIfInBounds_toArray, List.set_cons_zero, List.set_cons_succ]
  refine wpAnyH_ready (rs := [6]) (by kernel_rfl) (by simp) ?_
  refine AllReadyH.cons rfl (fun K hK => ?_) AllReadyH.nil
  obtain ⟨i0, hi0, hz0, hz1, hz2⟩ := info_parts info53
  have hadd : ∀ j, j < (n - (i + 1)) * 9 → A2.add j = ⟨g, (i + 1) * 9 + j, none⟩ := fun j hj => by
    rw [hA2, if_neg (by omega)]; unfold Addr.add; split <;> simp_all
  have hpart := HO.out.part i (by rw [← HN.out]; omega)
  have hpl : (xs.take i).length = i := by rw [List.length_take, ← HN.out]; omega
  unfold Own at hpart
  rw [hpl] at hpart
  have hnl : ((xs.drop (i + 1)).flatMap DWind.cs).length = (n - (i + 1)) * 9 := by rw [flatMap_len (cs := DWind.cs) (k := 9) (fun _ => rfl), List.length_drop, ← HN.out]
  refine step_append_fits rfl _ _ 26 rfl base 53 i0 9 Tryz.underlying26 hi0 hz1 g i cap ((xs.take i).flatMap DWind.cs) rfl hpart A2 (n - (i + 1)) (cap - (i + 1)) ((xs.drop (i + 1)).flatMap DWind.cs) rfl hnl ?_ ?_ (by omega) ?_
  · intro j u hu
    have hj : j < (n - (i + 1)) * 9 := by rw [← hnl]; exact (List.getElem?_eq_some_iff.1 hu).1
    rw [hadd j hj]
    obtain ⟨r, t, x, rfl, hx, ht⟩ := flatMap_inv (cs := DWind.cs) (k := 9) (fun _ => rfl) (by decide) hu
    rw [List.getElem?_drop] at hx
    have := rows_of HT.out _ x hx t u ht
    rw [show (i + 1) * 9 + (r * 9 + t) = (i + 1 + r) * 9 + t by omega]
    show (w.drew).cell? _ = _
    exact (blk_cell (w := w) HG.out _).trans this
  · intro u hu
    rw [List.mem_flatMap] at hu
    obtain ⟨x, _, hx⟩ := hu
    simp [DWind.cs] at hx
    rcases hx with rfl | rfl | rfl | rfl | rfl | rfl | rfl | rfl | rfl <;> rfl
  · intro w4 ho4 hg4
    have hlen : i + (n - (i + 1)) = n - 1 := by omega
    rw [hlen] at ho4 ⊢
    rw [← List.flatMap_append, ← List.eraseIdx_eq_take_drop_succ] at ho4
    have hel : (xs.eraseIdx i).length = n - 1 := by rw [List.length_eraseIdx, ← HN.out, if_pos hi]
    have ho5 : Own DWind.cs 9 53 base w4 (.slice (some ⟨g, 0, none⟩) (n - 1) cap) (xs.eraseIdx i) := by unfold Own; rw [hel]; exact ho4
    have hO5 := Lib.hid ho5
    have hG4 := Lib.hid hg4
    refine hK.out _ _ trivial (fun hHeld => ?_)
    clear hK K hHeld hpart hnl hadd hsl hA2 ho4 hg4 ho5
    try simp only [Act.put, List.setIfInBounds_toArray, List.set_cons_zero, List.set_cons_succ]
    refine wpAnyH_ready (rs := [7]) (by kernel_rfl) (by simp) ?_
    refine AllReadyH.cons rfl (fun K hK => ?_) AllReadyH.nil
    go_simp
    refine hK.out _ _ trivial (fun hHeld => ?_)
    clear hK K hHeld
    try simp only [Act.put, List.setIfInBounds_toArray, List.set_cons_zero, List.set_cons_succ]
    refine wpAnyH_done (by kernel_rfl) ?_ _
    rcases hO5.out.2 with ⟨h1, h2⟩ | ⟨g', cap', cur', e, hb', hg', hn', hc', hs', ht'⟩
    · simp at h1
    injection e with e2 e3 e4
    cases e2
    subst e4
    obtain ⟨news, hnl, hrun⟩ := clear_run w4 g ((n - 1) * 9) 1 (cap - (n - 1)) cur' hg' (by omega) (by rw [hs']; omega) 0
    have HNL := Lib.hid hnl
    have HG' := Lib.hid hg'
    have HS' := Lib.hid hs'
    have HT' := Lib.hid ht'
    have HN' := Lib.hid hn'
    have HC' := Lib.hid hc'
    have m1 : ((n : Int) - 1) ≤ (n : Int) := by omega
    have m2 : ((n - 1 : Nat) : Int) ≤ (n : Int) := by omega
    have m3 : n - 1 ≤ n := by omega
    have m4 : ¬ cap = n - 1 := by omega
    have m5 : n - (n - 1) = 1 := by omega
    have m6 : n - 1 ≤ cap := by omega
    clear hnl hg' hs' ht' hn' hc' e3
    go_wp2_with fail
    refine wp_abs_post (fun U hU => ?_)
    have hg6 := setRow_heap w4 g cur' (cur'.toList.take ((n - 1) * 9) ++ (news ++ cur'.toList.drop ((n - 1) * 9 + news.length))).toArray 53 (0, 0) HG'.out
    rw [← hU] at hg6
    have hoU : Own DWind.cs 9 53 base U (.slice (some ⟨g, 0, none⟩) (n - 1) cap) (xs.eraseIdx i) := by
      have hs2 := HS'.out
      have hn2 := HN'.out
      unfold Own
      rw [hel] at hn2 ⊢
      refine ⟨by rw [flatMap_len (cs := DWind.cs) (k := 9) (fun _ => rfl), hel], .inr ⟨g, cap, _, rfl, hb, hg6, hn2, HC'.out, ?_, ?_⟩⟩
      · simp only [List.size_toArray, List.length_append, List.length_take, List.length_drop, Array.length_toList, HNL.out, hs2]
        omega
      · have := HT'.out
        rw [hel] at this
        rw [List.take_append_of_le_length (by simp [hs2]; omega), List.take_take, Nat.min_self]
        exact this
    have hgU : w.grownBy U (some g) := by
      have hf := hG4.out
      rw [hU]
      exact ⟨hf.os, hf.tape, hf.output, by have := hf.size; simpa [World.setRow] using this, fun b hb' hb2 => (setRow_other w4 g b _ (fun e => hb2 (by rw [e]))).trans (hf.block b hb' hb2)⟩
    clear hU
    refine bodyPost_ret (v := .slice (some ⟨g, 0, none⟩) (n - 1) cap) (by simp [results, Tryz.results88, go_sem]) rfl ⟨_, rfl, hoU, ?_⟩
    simpa [Value.ownBlock] using hgU
end Go.Proofs.YtjekioabkmijbaaGreatDoor
