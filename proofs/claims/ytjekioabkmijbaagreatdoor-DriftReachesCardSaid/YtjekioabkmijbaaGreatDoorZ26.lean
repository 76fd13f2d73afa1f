/- CourseTo. -/
import Derived.Test.YtjekioabkmijbaaGreatDoorZ24
import Derived.Test.YtjekioabkmijbaaGreatDoorZ25
set_option linter.unusedVariables false
set_option linter.unusedSimpArgs false
namespace Go.Proofs.YtjekioabkmijbaaGreatDoor
open Go.RowKit Go.Shelf
attribute [local go_sem] Oper.semAt_some
def courseIs (s : DSea) (l : List DWind) (known f : Int) (x : DLoss) (p : DPlace) (h : Int) : Bool := decide (errAsk s l x f (some p) h = 0) && hasM (reachM s (counting l known) f x h) p
theorem Own.one {base g : Nat} {w : World} {p : DPlace} (h : w.heap[g]? = some (.cells #[iv p.c, iv p.b] 48 (0, 0))) (hb : base ≤ g) : Own DPlace.cs 2 48 base w (.slice (some ⟨g, 0, none⟩) 1 1) [p] :=
  ⟨rfl, .inr ⟨g, 1, #[iv p.c, iv p.b], rfl, hb, h, by simp, by unfold maxLen; omega, rfl, rfl⟩⟩
/-- What stands at the head of a round of CourseTo. -/
structure CoSt (w3 : World) (gc bh : Nat) (t : Int) (v : Value) (acc : List DPlace) (here : DPlace) (ds : List Nat) (V : World) : Prop where
  below : Below w3.heap.size w3 V
  course : V.heap[gc]? = some (.cells #[iv t, v] 95 (0, 0))
  row : Own DPlace.cs 2 48 w3.heap.size V v acc
  here : V.heap[bh]? = some (.cells #[iv here.c, iv here.b] 48 (0, 0))
  gcl : w3.heap.size ≤ gc
  bhl : w3.heap.size ≤ bh
  apart : v.ownBlock ≠ some bh
  marks : Marks w3.heap.size ds V
theorem CoSt.step {w3 : World} {gc bh : Nat} {t : Int} {v : Value} {acc : List DPlace} {here : DPlace} {ds : List Nat} {V V' : World} (h : CoSt w3 gc bh t v acc here ds V) (hb : Below V.heap.size V V') : CoSt w3 gc bh t v acc here ds V' :=
  ⟨h.below.trans (hb.mono h.below.size), blk_below h.course hb, h.row.below hb, blk_below h.here hb, h.gcl, h.bhl, h.apart, h.marks.below hb⟩
/-- All but the block of the place is as it was. -/
theorem CoSt.turned {w3 : World} {gc bh : Nat} {t : Int} {v : Value} {acc : List DPlace} {here y : DPlace} {ds : List Nat} {V V' : World} (h : CoSt w3 gc bh t v acc here ds V) (hf : Fix (fun b => b < V.heap.size ∧ b ≠ bh) V V') (hy : V'.heap[bh]? = some (.cells #[iv y.c, iv y.b] 48 (0, 0))) : CoSt w3 gc bh t v acc y ds V' := by
  have hlt : ∀ {b o}, V.heap[b]? = some o → b < V.heap.size := fun h => blk_lt h
  have hne : gc ≠ bh := fun e => by have h1 := h.course; rw [e, h.here] at h1; simp at h1
  refine ⟨⟨hf.os.trans h.below.os, hf.tape.trans h.below.tape, hf.output.trans h.below.output, Nat.le_trans h.below.size hf.size, fun b hb => ?_⟩, hf.blk h.course ⟨blk_lt h.course, hne⟩, ?_, hy, h.gcl, h.bhl, h.apart, h.marks.fix hf fun d hd => ⟨blk_lt (h.marks.1 d hd).1, fun e => ?_⟩⟩
  · have hs := h.below.size
    exact (hf.block b (by omega) ⟨by omega, by have := h.bhl; omega⟩).trans (h.below.block b hb)
  · exact h.row.fix hf fun b hb => ⟨(h.row.lt b hb).2, fun e => h.apart (by rw [hb, e])⟩
  · have := (h.marks.1 d hd).1
    rw [e, h.here] at this
    simp at this
theorem bl_alloc' {B : Nat} {w w1 : World} (h : Below B w w1) (o : Obj) (hB : B ≤ w1.heap.size := by omega) : Below B w (w1.alloc o) := h.alloc hB o
theorem handed_abs {J : Nat → Act → World → Prop} {n : Nat} {a : Act} {w : World} (h : ∀ W, W = w → Handed J n a W) : Handed J n a w := h w rfl
theorem Marks.grown {base : Nat} {ds : List Nat} {W W' : World} (h : Marks base ds W) {row : Option Nat} (hg : W.grownBy W' row) (hr : ∀ d ∈ ds, row ≠ some d) : Marks base ds W' :=
  ⟨fun d hd => ⟨blk_grown (h.1 d hd).1 hg (fun e => hr d hd e.symm), (h.1 d hd).2⟩, h.2⟩
def SeeS (W U : World) : Prop := Below W.heap.size W U
/-- No place so far leads here. -/
def CoI (s : DSea) (ws : List DWind) (f t : Int) (here : DPlace) (bh : Nat) (V1 : World) (pre : List DPlace) (V : World) : Prop :=
  Fix (fun b => b < V1.heap.size ∧ b ≠ bh) V1 V ∧ V.heap[bh]? = some (.cells #[iv here.c, iv here.b] 48 (0, 0)) ∧ ∀ z ∈ pre, hasM (movesM s ws f z (t - 1)) here = false
/-- The last place so far leads here. -/
def CoX (s : DSea) (ws : List DWind) (f t : Int) (here : DPlace) (bh : Nat) (V1 : World) (cd : Code) (pre : List DPlace) (V : World) : Prop :=
  cd = .exit 2 ∧ ∃ pre0 y, pre = pre0 ++ [y] ∧ (∀ z ∈ pre0, hasM (movesM s ws f z (t - 1)) here = false) ∧ hasM (movesM s ws f y (t - 1)) here = true ∧ Fix (fun b => b < V1.heap.size ∧ b ≠ bh) V1 V ∧ V.heap[bh]? = some (.cells #[iv y.c, iv y.b] 48 (0, 0))
def CoursePost (s : DSea) (ws : List DWind) (f : Int) (x : DLoss) (p : DPlace) (h : Int) (is : Bool) (er : Int) (w : World) (e : Ending) (w' : World) : Prop :=
  ∃ (cf : Int) (v : Value) (ps : List DPlace), e = .returned (.tuple #[.agg #[iv cf, v], .bool is, iv er]) ∧ Own DPlace.cs 2 48 w.heap.size w' v ps ∧
    (if is then courseOk s ws f x p h cf ps = true else ps = [] ∧ cf = 0) ∧ Below w.heap.size w w'
set_option maxHeartbeats 2000000 in
set_option maxRecDepth 20000 in
theorem courseTo_calls (s : DSea) (l : List DWind) (x : DLoss) (p : DPlace) (known f h : Int) (vh vt vl : Value) (w : World) (hf : 0 ≤ f ∧ f ≤ 255) (h1 : Sl intCs 1 w vh s.hts) (h2 : Sl DTide.cs 2 w vt s.tds) (h3 : Sl DWind.cs 9 w vl l) :
    Calls Tryz.prog 73 #[.agg #[iv s.cells, iv s.bands, vh, vt], vl, iv known, lossV x, .int .u8 f, placeV p, iv h] w fun e w' =>
      CoursePost s (counting l known) f x p h (courseIs s l known f x p h) (errAsk s l x f (some p) h) w e w' := by
  have hF : ∀ f, Fence.wide.fn f := fun _ => trivial
  have hD : Fence.wide.depth = none := rfl
  obtain ⟨A1, k1, rfl, hk1, hlk1⟩ := h1.open_
  obtain ⟨A2, k2, rfl, hk2, hlk2⟩ := h2.open_
  have H1 := Lib.hid h1
  have H2 := Lib.hid h2
  have H3 := Lib.hid h3
  clear h1 h2 h3
  have hi : courseIs s l known f x p h = (decide (errAsk s l x f (some p) h = 0) && hasM (reachM s (counting l known) f x h) p) := rfl
  generalize courseIs s l known f x p h = is at hi ⊢
  obtain ⟨er, her⟩ : ∃ q, q = errAsk s l x f (some p) h := ⟨_, rfl⟩
  rw [← her] at hi ⊢
  have HI := Lib.hid hi
  clear hi
  refine callsW.1 (callsIn_of_wp_marks (F := FW none) (n := 0) Tryz.func73 rfl trivial (wpIn_wide.2 ?_))
  simp only [Tryz.ntmps73, List.size_toArray, List.length_cons, List.length_nil, Nat.reduceAdd, Nat.reduceSub, Array.replicate_succ, Array.replicate_zero, List.push_toArray, List.append_toArray, List.nil_append, List.cons_append]
  go_wp2_with fail
  refine calls_abs (fun W0 hW0 => ?_)
  have g1 : W0.heap[w.heap.size + 1]? = some (.cells (lossA x) 30 (0, 0)) := by rw [hW0]; exact blk_alloc (blk_alloc (blk_at _ (by simp)) _) _
  have gp : W0.heap[w.heap.size + 1 + 1]? = some (.cells #[iv p.c, iv p.b] 48 (0, 0)) := by rw [hW0]; exact blk_alloc (blk_at _ (by simp)) _
  have gz : W0.heap[w.heap.size + 1 + 1 + 1]? = some (.cells #[iv 0, .slice none 0 0] 95 (0, 0)) := by rw [hW0]; exact blk_at _ (by simp)
  have hB : Below w.heap.size w W0 := by rw [hW0]; exact bl_alloc (bl_alloc (bl_alloc (bl_alloc (Below.refl _ _) _) _) _) _
  clear hW0
  by_cases he : er = 0
  · rw [he] at her
    subst he
    have he := her.symm
    have HF := Lib.hid (ask_facts he)
    have HPL := Lib.hid (ask_place he)
    have hokp : okP p := okP_of HF.out.sea HPL.out
    have HOK := Lib.hid hokp
    refine (askedP_ok s l x p known f h _ _ vl _ W0 hf (H1.out.below hB) (H2.out.below hB) (H3.out.below hB) gp he).mono ?_
    rintro e w1 ⟨A3, n3, c3, rfl, hk, hb1⟩
    have HK := Lib.hid hk
    have G1 := Lib.hid (blk_below g1 hb1)
    have GP := Lib.hid (blk_below gp hb1)
    have GZ := Lib.hid (blk_below gz hb1)
    have HB1 := Lib.hid (bl_step hB hb1)
    obtain ⟨d0, d1, d2, d3, d4, d5, d6⟩ := loss_cells G1.out
    have l1 := blk_lt G1.out
    clear hk hb1 g1 gp gz hB he hokp her
    go_wp2_with fail
    refine calls_abs (fun W2 hW2 => ?_)
    have hb2 : Below w1.heap.size w1 W2 := by rw [hW2]; exact bl_alloc (Below.refl _ _) _
    refine (sets_calls s _ f _ _ _ x h W2 (HK.out.below hb2) HF.out.loss HF.out.hour.2).mono ?_
    rintro e w3 ⟨v, rfl, ho, hb3⟩
    obtain ⟨hsl, hsg⟩ := sets_last (s := s) (ws := counting l known) (f := f) HF.out.near.1
    have hnear := HF.out.near
    obtain ⟨q, hq⟩ : ∃ q, q = (h - x.hl).toNat := ⟨_, rfl⟩
    have hqb : q ≤ 200 := by omega
    rw [← hq] at hsl hsg
    obtain ⟨SS, hSS⟩ : ∃ SS, SS = setsOf s (counting l known) f x h := ⟨_, rfl⟩
    obtain ⟨M, hM⟩ : ∃ M, M = reachM s (counting l known) f x h := ⟨_, rfl⟩
    rw [← hSS] at ho hsl hsg
    rw [← hM] at hsg
    obtain ⟨A, c, rfl⟩ := ho.slice
    have hs1 : Sl setCs 5 w3 (.slice A SS.length c) SS := ho.sl (fun _ => rfl) (by omega)
    obtain ⟨b, o, rfl, r0, r1, r2, r3, r4⟩ := hs1.set q _ hsg
    have HS1 := Lib.hid hs1
    have hb23 := bl_step hb2 hb3
    have gp3 := blk_below GP.out hb23
    obtain ⟨p0, p1⟩ := place_cells gp3
    have lp := blk_lt gp3
    have lr := World.block_lt_of_cell? w3 _ r0
    have GP3 := Lib.hid gp3
    have GZ3 := Lib.hid (blk_below GZ.out hb23)
    have G1_3 := Lib.hid (blk_below G1.out hb23)
    have HK3 := Lib.hid (HK.out.below hb23)
    have gs2 : W2.heap[w1.heap.size]? = some (.cells #[iv s.cells, iv s.bands, .slice A1 s.hts.length k1, .slice A2 s.tds.length k2, .slice A3 n3 c3, iv f] 110 (0, 0)) := by rw [hW2]; exact blk_new _ _
    have GS3 := Lib.hid (blk_below gs2 hb3)
    have HB3 := Lib.hid (bl_step HB1.out hb23)
    have HSL := Lib.hid hsl
    have HM := Lib.hid hM
    have HQ := Lib.hid hq
    have HSS := Lib.hid hSS
    clear hb2 hb3 hb23 d0 d1 d2 d3 d4 d5 d6 gp3 gs2 hW2 ho hs1 hsg hq hSS hM hsl
    rw [HSL.out]
    go_wp2_with fail
    have i1 : IntKind.i64.wrap (q : Int) = (q : Int) := IntWalk.i64_in _ ⟨by omega, by omega⟩
    have i2 : IntKind.i64.wrap ((q : Int) + 1 - 1) = (q : Int) := by rw [show (q : Int) + 1 - 1 = (q : Int) by omega]; exact i1
    have i3 : (0 : Int) ≤ (q : Int) := by omega
    have i4 : (q : Int) < (q : Int) + 1 := by omega
    go_region_held3 (fun V => (∀ b o, b < w3.heap.size → V.cell? ⟨b, o, none⟩ = w3.cell? ⟨b, o, none⟩) ∧ Hid (Below w3.heap.size w3 V)) (first | exact sees_start w3 | exact sees_step (by assumption) hb7) (first | (go_at_call 86; refine (has_calls M p _ HOK.out).mono ?_; rintro e w' ⟨rfl, hb7⟩))
    rename _ ∧ Hid (Below w3.heap.size w3 _) => hAnd
    have hbx := hAnd.2.out
    rename World => w4
    have HBX := Lib.hid hbx
    have GZ4 := Lib.hid (blk_below GZ3.out hbx)
    have HB4 := Lib.hid (bl_step HB3.out hbx)
    have GP4 := Lib.hid (blk_below GP3.out hbx)
    have hs34 := hbx.size
    have hsz3 := HB3.out.size
    clear hAnd hbx hb7 i1 i2 i3 i4 p0 p1 r0 r1 r2 r3 r4 hsz3
    have hhb : is = hasM M p := by rw [HI.out, HM.out]; simp
    rw [← hhb]
    have HHB := Lib.hid hhb
    clear hhb
    cases is with
    | true =>
      obtain ⟨p0, p1⟩ := place_cells GP4.out
      have lp4 := blk_lt GP4.out
      have lp4' : w.heap.size + 1 < w4.heap.size := by omega
      have lp4'' : w.heap.size < w4.heap.size := by omega
      go_wp2_with fail
      refine wp_abs (fun W hW => ?_)
      have q1 : W.heap[w4.heap.size]? = some (.cells #[iv p.c, iv p.b] 48 (0, 0)) := by rw [hW]; exact blk_alloc (blk_alloc (blk_new _ _) _) _
      have q2 : W.heap[w4.heap.size + 1]? = some (.cells #[iv h, .slice (some ⟨w4.heap.size, 0, none⟩) 1 1] 95 (0, 0)) := by rw [hW]; exact blk_alloc (blk_at _ (by simp)) _
      have q3 : W.heap[w4.heap.size + 1 + 1]? = some (.cells #[iv p.c, iv p.b] 48 (0, 0)) := by rw [hW]; exact blk_at _ (by simp)
      have hbW : Below w3.heap.size w3 W := bl_step HBX.out (by rw [hW]; exact bl_alloc (bl_alloc (bl_alloc (Below.refl _ _) _) _) _)
      clear hW
      have hst : CoSt w3 (w4.heap.size + 1) (w4.heap.size + 1 + 1) h (.slice (some ⟨w4.heap.size, 0, none⟩) 1 1) [p] p [] W := ⟨hbW, q2, Own.one q1 (by omega), q3, by omega, by omega, by simp [Value.ownBlock]; omega, Marks.nil _ _⟩
      have hback : Back s (counting l known) f x p h h p [p] := Back.start HF.out.near.1 HPL.out (by rw [← HM.out]; exact HHB.out.symm)
      refine wp_loop_slots [21,56,57,58,59,60,61,62,63,64,65,66,67,68,69,70,71,72,73,84,85,86,87,88,89,90,91,92,93,94]
        (fun n us ds V => ∃ (t : Int) (here : DPlace) (acc : List DPlace) (bh : Nat) (v : Value), us 21 = .pointer (some ⟨bh, 0, none⟩) ∧ n = (t - x.hl).toNat ∧ Hid (Back s (counting l known) f x p h t here acc) ∧ Hid (CoSt w3 (w4.heap.size + 1) bh t v acc here ds V)) q
        (slots_end (ds := []) rfl (by kernel_rfl) ⟨h, p, [p], w4.heap.size + 1 + 1, _, by kernel_rfl, HQ.out, hback, hst⟩) ?_
      rintro n us ds V ⟨t, here, acc, bh, v, hbh, hn, HBK, HST⟩ J K hJ hK
      simp only [setSlots, List.setIfInBounds_toArray, List.set_cons_zero, List.set_cons_succ, hbh]
      have hst := HST.out
      have hbk := HBK.out
      have hok : placeOk s here = true := hbk.ok here (List.mem_of_getLast? hbk.last)
      have HOKH := Lib.hid (okP_of HF.out.sea hok)
      have HLO := Lib.hid (lossOk_bounds HF.out.sea HF.out.loss)
      have htl := hbk.low
      have hth := hbk.high
      have hhr := HF.out.hour
      have hxl := HLO.out.2
      obtain ⟨e0, e1⟩ := place_cells hst.here
      have k0 := blk_cell hst.course 0
      simp only [List.getElem?_toArray, List.getElem?_cons_zero] at k0
      obtain ⟨d0, d1, d2, d3, d4, d5, d6⟩ := loss_cells (blk_below G1_3.out hst.below)
      have ll := blk_lt (blk_below G1_3.out hst.below)
      have lh := blk_lt hst.here
      have lc := blk_lt hst.course
      have HNN := Lib.hid hn
      clear hst hbk hok hn hbh hback q1 q2 q3 p0 p1
      go_wp2_with fail
      go_region_held3 (fun U => (∀ b o, b < V.heap.size → U.cell? ⟨b, o, none⟩ = V.cell? ⟨b, o, none⟩) ∧ Hid (Below V.heap.size V U)) (first | exact sees_start V | exact sees_step (by assumption) hb7 | exact sees_step (by assumption) hb8) (first | (go_at_call 133; refine (begun_calls x t _ HLO.out.1).mono ?_; rintro e w' ⟨rfl, hb7⟩) | (go_at_call 86; refine (has_calls (begunM x t) here _ HOKH.out).mono ?_; rintro e w' ⟨rfl, hb8⟩))
      rename _ ∧ Hid (Below V.heap.size V _) => hAnd
      have hbx := hAnd.2.out
      rename World => V1
      have HST1 := Lib.hid (HST.out.step hbx)
      clear hAnd hbx hb7 hb8 e0 e1 k0 d0 d1 d2 d3 d4 d5 d6 ll lh lc
      obtain ⟨bg, hbg⟩ : ∃ q, q = hasM (begunM x t) here := ⟨_, rfl⟩
      rw [← hbg]
      have HBG := Lib.hid hbg
      clear hbg
      cases bg with
      | false =>
        have hgt : x.hl < t := by
          rcases Int.lt_or_eq_of_le htl with h1 | h1
          · exact h1
          · have h2 := HBK.out.has
            rw [← h1, show (x.hl - x.hl).toNat = 0 by omega] at h2
            have h3 := HBG.out
            rw [← h1] at h3
            exact absurd (h3.trans h2) (by decide)
        obtain ⟨j, hj⟩ : ∃ j, j = (t - 1 - x.hl).toNat := ⟨_, rfl⟩
        have hSj : SS[j]? = some (setAt s (counting l known) f x j) := by
          rw [HSS.out]; unfold setsOf
          rw [List.getElem?_map, List.getElem?_range (by unfold hoursN; omega)]; rfl
        obtain ⟨b', o', eb, r0, r1, r2, r3, r4⟩ := (HS1.out.below HST1.out.below).set j _ hSj
        cases eb
        have ej : t - 1 - x.hl = (j : Int) := by omega
        have hjq : (j : Int) < (q : Int) + 1 := by have := HQ.out; omega
        have hjq' : j < q + 1 := by omega
        have hj0 : (0 : Int) ≤ (j : Int) := by omega
        have et : IntKind.i64.wrap (t - 1) = t - 1 := IntWalk.i64_in _ ⟨by omega, by omega⟩
        have ejw : IntKind.i64.wrap (j : Int) = (j : Int) := IntWalk.i64_in _ ⟨by omega, by omega⟩
        have HJ := Lib.hid hj
        have hst := HST1.out
        have k0 := blk_cell hst.course 0
        simp only [List.getElem?_toArray, List.getElem?_cons_zero] at k0
        obtain ⟨d0, d1, d2, d3, d4, d5, d6⟩ := loss_cells (blk_below G1_3.out hst.below)
        obtain ⟨MJ, hMJ⟩ : ∃ q, q = setAt s (counting l known) f x j := ⟨_, rfl⟩
        rw [← hMJ] at r0 r1 r2 r3 r4
        have HMJ := Lib.hid hMJ
        clear hst hj hSj hMJ
        go_wp2_with fail
        go_step3
        go_wp2_with fail
        refine wp_label ?_
        go_wp2_with fail
        have hN0 : (w4.heap.size + 1) ≠ bh := fun e => by have h1 := HST1.out.course; rw [e, HST1.out.here] at h1; simp at h1
        have HN0 := Lib.hid hN0
        have lbh := blk_lt HST1.out.here
        have lgc := blk_lt HST1.out.course
        have hbwV : Below w.heap.size w V1 := bl_step HB3.out HST1.out.below
        have hs3V := HST1.out.below.size
        have hs3 := HB3.out.size
        have hgcl := HST1.out.gcl
        have hbhl := HST1.out.bhl
        clear r0 r1 r2 r3 r4 k0 d0 d1 d2 d3 d4 d5 d6 ej hjq hjq' hj0 et ejw hN0
        refine wp_iter0s (α := DPlace) (callsAs_method (enters_of Tryz.func82 (by kernel_rfl) rfl)) (all_iter MJ w) (K := fun _ => False) (w0 := w) (Fix.of_below hbwV) (fun x => rfl) (fun b h => h.elim)
          (fun pre V => CoI s (counting l known) f t here bh V1 pre V)
          (fun cd pre V => CoX s (counting l known) f t here bh V1 cd pre V)
          ?_ ?_ ⟨Fix.refl _ _, HST1.out.here, fun z hz => by simp at hz⟩ ?_ ?_ ?_
        · rintro pre W W' ⟨g1, g2, g3⟩ _ hf
          exact ⟨g1.trans (hf.mono fun b _ hb => hb.1), hf.blk g2 lbh, g3⟩
        · rintro cd pre W W' ⟨g0, pre0, y, g1, g2, g3, g4, g5⟩ _ hf
          exact ⟨g0, pre0, y, g1, g2, g3, g4.trans (hf.mono fun b _ hb => hb.1), hf.blk g5 lbh⟩
        · rintro lp pre y V hlp1 hlp2 hVs ⟨g1, g2, g3⟩ hx hK0
          gi_wp2
          refine ⟨bl_alloc (Below.refl _ _) _, fun W2 hf2 hs2 => ?_⟩
          have hFx : Fix (fun b => b < V1.heap.size ∧ b ≠ bh) V1 W2 := (g1.trans (Fix.of_below (bl_alloc (Below.refl V.heap.size V) (.cells #[iv y.c, iv y.b] 48)))).trans (hf2.mono fun b _ hb => by omega)
          have hH2 : W2.heap[bh]? = some (.cells #[iv here.c, iv here.b] 48 (0, 0)) := hf2.blk (blk_alloc g2 _) (by omega)
          have dy : W2.heap[V.heap.size]? = some (.cells #[iv y.c, iv y.b] 48 (0, 0)) := hf2.blk (blk_new _ _) (by omega)
          have hst2 := HST1.out.turned hFx hH2
          have gs := blk_below GS3.out hst2.below
          have HSK := Lib.hid (HK3.out.below hst2.below)
          obtain ⟨c0, c1, c2, c3', c4, c5⟩ := sky_cells gs
          obtain ⟨y0, y1⟩ := place_cells dy
          obtain ⟨e0, e1⟩ := place_cells hH2
          have k0 := blk_cell hst2.course 0
          simp only [List.getElem?_toArray, List.getElem?_cons_zero] at k0
          have t1 := blk_lt gs
          have t2 := blk_lt dy
          have t3 := blk_lt hH2
          have t4 := blk_lt hst2.course
          have hyok : placeOk s y = true := by
            have hm : y ∈ placesOf MJ := by obtain ⟨r, hr⟩ := hx; rw [← hr]; simp
            rw [HMJ.out] at hm
            exact setAt_ok _ _ HF.out.sea HF.out.loss _ y hm
          have HYOK := Lib.hid hyok
          have ew : IntKind.i64.wrap (t - 1) = t - 1 := IntWalk.i64_in _ ⟨by omega, by omega⟩
          have HFX := Lib.hid hFx
          have HH2 := Lib.hid hH2
          have HDY := Lib.hid dy
          have HG3 := Lib.hid g3
          have hbne : V.heap.size ≠ bh := by omega
          clear g1 g2 g3 hf2 hs2 hFx hH2 dy hst2 gs hyok hx hK0
          gi_wp2
          refine region_round (SeeS W2) (by kernel_rfl) (by simp) (by rintro ⟨_, _, h⟩; exact h) (show SeeS W2 W2.drew from (Below.refl _ _).drew) (fun hHeld => ?_)
          refine wpAnyH_take (i := 0) (v := .agg #[iv s.cells, iv s.bands, .slice A1 s.hts.length k1, .slice A2 s.tds.length k2, .slice A3 n3 c3, iv f]) rfl (by kernel_rfl) (by kernel_rfl) (by kernel_rfl) (fun _ _ _ h => h) (Or.inl ⟨by rfl, ?_⟩) (by assumption) ?_
          · intro U hSw; have hq := (sees_of (show Below W2.heap.size W2 U from hSw)).1; go_simp
          try simp only [Act.put, List.setIfInBounds_toArray, List.set_cons_zero, List.set_cons_succ]
          refine wpAnyH_take (i := 1) (v := placeV y) rfl (by kernel_rfl) (by kernel_rfl) (by kernel_rfl) (fun _ _ _ h => h) (Or.inl ⟨by rfl, ?_⟩) (by assumption) ?_
          · intro U hSw; have hq := (sees_of (show Below W2.heap.size W2 U from hSw)).1; go_simp
          try simp only [Act.put, List.setIfInBounds_toArray, List.set_cons_zero, List.set_cons_succ]
          refine wpAnyH_take (i := 2) (v := .pointer (some ⟨w4.heap.size + 1, 0, none⟩)) rfl (by kernel_rfl) (by kernel_rfl) (by kernel_rfl) (fun _ _ _ h => h) (Or.inl ⟨by rfl, ?_⟩) (by assumption) ?_
          · intro U hSw; have hq := (sees_of (show Below W2.heap.size W2 U from hSw)).1; go_simp
          try simp only [Act.put, List.setIfInBounds_toArray, List.set_cons_zero, List.set_cons_succ]
          refine wpAnyH_take (i := 3) (v := iv t) rfl (by kernel_rfl) (by kernel_rfl) (by kernel_rfl) (fun _ _ _ h => h) (Or.inl ⟨by rfl, ?_⟩) (by assumption) ?_
          · intro U hSw; have hq := (sees_of (show Below W2.heap.size W2 U from hSw)).1; go_simp
          try simp only [Act.put, List.setIfInBounds_toArray, List.set_cons_zero, List.set_cons_succ]
          refine wpAnyH_take (i := 4) (v := iv (t - 1)) rfl (by kernel_rfl) (by kernel_rfl) (by kernel_rfl) (fun _ _ _ h => h) (Or.inl ⟨by rfl, ?_⟩) (by assumption) ?_
          · intro U hSw; have hq := (sees_of (show Below W2.heap.size W2 U from hSw)).1; go_simp
          try simp only [Act.put, List.setIfInBounds_toArray, List.set_cons_zero, List.set_cons_succ]
          refine wpAnyH_take (i := 6) (v := placeV here) rfl (by kernel_rfl) (by kernel_rfl) (by kernel_rfl) (fun _ _ _ h => h) (Or.inl ⟨by rfl, ?_⟩) (by assumption) ?_
          · intro U hSw; have hq := (sees_of (show Below W2.heap.size W2 U from hSw)).1; go_simp
          try simp only [Act.put, List.setIfInBounds_toArray, List.set_cons_zero, List.set_cons_succ]
          refine wpAnyH_ready (rs := [5]) (by kernel_rfl) (by simp) ?_
          refine AllReadyH.cons rfl (fun K' hK' => ?_) AllReadyH.nil
          go_simp
          refine (moves_calls s (counting l known) f _ _ _ y (t - 1) W2.drew (HSK.out.below (Below.refl _ _).drew) HYOK.out ⟨by omega, by omega⟩).mono ?_
          rintro e W5 ⟨rfl, hb5'⟩
          have hb5 : Below W2.heap.size W2 W5 := (Below.refl W2.heap.size W2).drew.trans hb5'
          refine hK'.out _ _ (show SeeS W2 W5 from hb5) (fun hHeld => ?_)
          clear hK' K'
          try simp only [Act.put, List.setIfInBounds_toArray, List.set_cons_zero, List.set_cons_succ]
          refine wpAnyH_ready (rs := [7]) (by kernel_rfl) (by simp) ?_
          refine AllReadyH.cons rfl (fun K' hK' => ?_) AllReadyH.nil
          go_simp
          refine (has_calls (movesM s (counting l known) f y (t - 1)) here W5 HOKH.out).mono ?_
          rintro e W6 ⟨rfl, hb6'⟩
          have hb6 : Below W2.heap.size W2 W6 := bl_step hb5 hb6'
          refine hK'.out _ _ (show SeeS W2 W6 from hb6) (fun hHeld => ?_)
          clear hK' K'
          try simp only [Act.put, List.setIfInBounds_toArray, List.set_cons_zero, List.set_cons_succ]
          refine wpAnyH_done (by kernel_rfl) ?_ _
          have HB6 := Lib.hid hb6
          have GY := Lib.hid (blk_below HDY.out hb6)
          have GH := Lib.hid (blk_below HH2.out hb6)
          clear hb5 hb5' hb6 hb6' hHeld c0 c1 c2 c3' c4 c5 y0 y1 e0 e1 k0 t1 t2 t3 t4 ew
          obtain ⟨hv, hhv⟩ : ∃ q, q = hasM (movesM s (counting l known) f y (t - 1)) here := ⟨_, rfl⟩
          rw [← hhv]
          have HHV := Lib.hid hhv
          clear hhv
          cases hv with
          | false =>
            gi_wp2
            refine ⟨(⟨HFX.out.trans (Fix.of_below HB6.out), GH.out, fun z hz => ?_⟩ : CoI s (counting l known) f t here bh V1 (pre ++ [y]) W6), Fix.of_below HB6.out⟩
            rcases List.mem_append.1 hz with hz | hz
            · exact HG3.out z hz
            · simp at hz; subst hz; exact HHV.out.symm
          | true =>
            obtain ⟨y0, y1⟩ := place_cells GY.out
            obtain ⟨e0, e1⟩ := place_cells GH.out
            have f0 := blk_frozen GH.out 0
            have f1 := blk_frozen GH.out 1
            gi_wp2
            refine ⟨(⟨rfl, pre, y, rfl, HG3.out, HHV.out.symm, ?_, blk_set2 GH.out _ _⟩ : CoX s (counting l known) f t here bh V1 (.exit 2) (pre ++ [y]) _), ?_⟩
            · exact ((HFX.out.trans (Fix.of_below HB6.out)).setCell (p := ⟨bh, 0, none⟩) (fun _ h => h.2 rfl) _).setCell (p := ⟨bh, 1, none⟩) (fun _ h => h.2 rfl) _
            · exact ((Fix.of_below HB6.out).setCell (p := ⟨bh, 0, none⟩) (fun _ h => by have : V1.heap.size ≤ bh := h; omega) _).setCell (p := ⟨bh, 1, none⟩) (fun _ h => by have : V1.heap.size ≤ bh := h; omega) _
        · rintro V ⟨g1, g2, g3⟩ hVs hDf
          exfalso
          have h1 := prev_some (ws := counting l known) (f := f) hgt HBK.out.has HBG.out.symm
          unfold prevP at h1
          rw [List.find?_isSome] at h1
          obtain ⟨z, hz, hz2⟩ := h1
          rw [← HJ.out, ← HMJ.out] at hz
          rw [g3 z hz] at hz2
          exact absurd hz2 (by decide)
        · rintro cd pre V hp ⟨rfl, pre0, y, rfl, g2, g3, g4, g5⟩ hVs hDf
          have HST2 := Lib.hid (HST1.out.turned g4 g5)
          have hpv : prevP s (counting l known) f x t here = some y := by
            obtain ⟨r, hr⟩ := hp
            unfold prevP
            rw [← HJ.out, ← HMJ.out, ← hr, List.append_assoc, List.find?_append, List.find?_eq_none.2 (fun z hz => by rw [g2 z hz]; decide)]
            simp [g3]
          have HBK2 := Lib.hid (HBK.out.next HF.out.sea HF.out.loss hgt hpv)
          have hmk : Marks w3.heap.size (V1.heap.size :: ds) V := HST2.out.marks.cons hDf (by omega) (fun hd => by have := blk_lt (HST1.out.marks.1 _ hd).1; omega)
          have HMK := Lib.hid hmk
          have k0 := blk_cell HST2.out.course 0
          have k1' := blk_cell HST2.out.course 1
          simp only [List.getElem?_toArray, List.getElem?_cons_zero, List.getElem?_cons_succ] at k0 k1'
          have f0 := blk_frozen HST2.out.course 0
          clear g2 g3 g4 g5 hp hpv hmk hDf
          have ew : IntKind.i64.wrap (t - 1) = t - 1 := IntWalk.i64_in _ ⟨by omega, by omega⟩
          go_upto_region 15 with fail
          refine wp_abs (fun V2 hV2 => ?_)
          have q0 : V2.heap[w4.heap.size + 1]? = some (.cells #[iv (t - 1), v] 95 (0, 0)) := by rw [hV2]; have := blk_set HST2.out.course 0 (iv (t - 1)); simpa using this
          have qh : V2.heap[bh]? = some (.cells #[iv y.c, iv y.b] 48 (0, 0)) := by rw [hV2]; exact blk_far HST2.out.here (by simp; have := HN0.out; omega) _
          have hvg : v.ownBlock ≠ some (w4.heap.size + 1) := fun e => by
            obtain ⟨cur, hcur⟩ := HST2.out.row.isCells e
            rw [HST2.out.course] at hcur
            simp at hcur
          have qo : Own DPlace.cs 2 48 w3.heap.size V2 v acc := by rw [hV2]; exact HST2.out.row.set hvg _
          have qm : Marks w3.heap.size (V1.heap.size :: ds) V2 := by rw [hV2]; exact HMK.out.set HST2.out.course _ _
          have qb : Below w3.heap.size w3 V2 := by rw [hV2]; exact HST2.out.below.setCell (p := ⟨w4.heap.size + 1, 0, none⟩) hgcl _
          clear hV2 k0 k1' f0
          have k1' := blk_cell q0 1
          simp only [List.getElem?_toArray, List.getElem?_cons_zero, List.getElem?_cons_succ] at k1'
          obtain ⟨e0, e1⟩ := place_cells qh
          have t1 := blk_lt q0
          have t2 := blk_lt qh
          have hs32 := qb.size
          have hal : acc.length ≤ 1000000 := by have := HBK.out.len; omega
          have Q0 := Lib.hid q0
          have QH := Lib.hid qh
          have QO := Lib.hid qo
          have QM := Lib.hid qm
          have QB := Lib.hid qb
          have HVG := Lib.hid hvg
          clear q0 qh qo qm qb hvg
          have hb3 : Below V2.heap.size V2 (V2.alloc (.cells #[iv y.c, iv y.b] 48)) := (Below.refl _ _).alloc (Nat.le_refl _) _
          have HB3' := Lib.hid hb3
          clear hb3
          go_wp2_with (at_builtin; refine wp_push2 (cs := DPlace.cs) (base := w3.heap.size) rfl _ _ _ rfl (.agg #[iv 0, iv 0]) 16 Tryz.underlying34 info48 rfl (by decide) v acc y rfl (QO.out.alloc _) V2.heap.size 1 1 rfl rfl (0, 0) 48 (blk_new _ _) rfl (by intro u hu; simp [DPlace.cs] at hu; rcases hu with rfl | rfl <;> rfl) (by omega) (by decide) (by simp; omega) ?_; intro v' W4 hown' hgrow hnew; obtain ⟨A', c', rfl⟩ := hown'.slice; have g4 := blk_grown (blk_below Q0.out HB3'.out) hgrow (fun h => HVG.out h.symm); have c4 := blk_cell g4 0; have c4' := blk_cell g4 1; have f4 := blk_frozen g4 1; have l4 := blk_lt g4; have h4 := blk_grown (blk_below QH.out HB3'.out) hgrow (fun h => HST2.out.apart h.symm); have H4 := Lib.hid h4; obtain ⟨e2, e3⟩ := place_cells h4; have lh4 := blk_lt h4; have G4 := Lib.hid g4; have HO := Lib.hid hown'; have HG := Lib.hid hgrow; have HN := Lib.hid hnew; clear hown' hgrow hnew g4 h4)
          refine wp_abs_post (fun U hU => ?_)
          have gc4 : U.heap[w4.heap.size + 1]? = some (.cells #[iv (t - 1), .slice A' (acc ++ [y]).length c'] 95 (0, 0)) := by rw [hU]; have := blk_set G4.out 1 (.slice A' (acc.length + 1) c'); simpa using this
          have gh4 : U.heap[bh]? = some (.cells #[iv y.c, iv y.b] 48 (0, 0)) := by rw [hU]; exact blk_far H4.out (by simp; have := HN0.out; omega) _
          have hvg2 : (Value.slice A' (acc ++ [y]).length c').ownBlock ≠ some (w4.heap.size + 1) := fun e => by
            obtain ⟨cur, hcur⟩ := HO.out.isCells e
            rw [G4.out] at hcur
            simp at hcur
          have go4 : Own DPlace.cs 2 48 w3.heap.size U (.slice A' (acc ++ [y]).length c') (acc ++ [y]) := by rw [hU]; exact HO.out.set hvg2 _
          have gb4 : Below w3.heap.size w3 U := by
            rw [hU]
            exact (bl_push (bl_alloc' QB.out _) (QO.out.alloc _) HG.out (Nat.le_refl _) (by simp; omega)).setCell (p := ⟨w4.heap.size + 1, 1, none⟩) hgcl _
          have gm4 : Marks w3.heap.size (V1.heap.size :: ds) U := by
            rw [hU]
            refine (Marks.set ?_ G4.out 1 _)
            refine (QM.out.below (bl_alloc (Below.refl _ _) _)).grown HG.out (fun d hd e => ?_)
            obtain ⟨cur, hcur⟩ := (QO.out.alloc (.cells #[iv y.c, iv y.b] 48)).isCells e
            have := ((QM.out.below (bl_alloc (Below.refl V2.heap.size V2) (.cells #[iv y.c, iv y.b] 48))).1 d hd).1
            rw [hcur] at this
            simp at this
          have gs4 : W4.heap.size = U.heap.size := by rw [hU]; simp [World.setCell]
          clear hU hvg2
          obtain ⟨e4, e5⟩ := place_cells gh4
          have GC4 := Lib.hid gc4
          have GH4 := Lib.hid gh4
          have GO4 := Lib.hid go4
          have GB4 := Lib.hid gb4
          have GM4 := Lib.hid gm4
          have lu1 := blk_lt gc4
          have lu2 := blk_lt gh4
          clear gc4 gh4 go4 gb4 gm4 c4 c4' f4 e2 e3 e0 e1 k1' t1 t2 gs4
          rw [Exit.noGoto_normal]
          go_wp2_with fail
          refine handed_abs (fun X hX => ?_)
          have hst' : CoSt w3 (w4.heap.size + 1) U.heap.size (t - 1) (.slice A' (acc ++ [y]).length c') (acc ++ [y]) y (V1.heap.size :: ds) X := by
            rw [hX]
            refine ⟨GB4.out.alloc GB4.out.size _, blk_alloc GC4.out _, GO4.out.alloc _, blk_new _ _, hgcl, by have := GB4.out.size; omega, fun e => ?_, GM4.out.below (bl_alloc (Below.refl _ _) _)⟩
            have := (GO4.out.lt _ e).2
            omega
          have HST' := Lib.hid hst'
          have hnum : (t - 1 - x.hl).toNat < n := by rw [HNN.out]; omega
          clear hst' hX
          refine Handed.intro (t - 1 - x.hl).toNat hnum (hJ _ _ _ (slots_end (ds := V1.heap.size :: ds) rfl (by kernel_rfl) ⟨t - 1, y, acc ++ [y], U.heap.size, _, by kernel_rfl, rfl, HBK2.out, HST'.out⟩))
      | true =>
        obtain ⟨A', c', rfl⟩ := HST1.out.row.slice
        have k0 := blk_cell HST1.out.course 0
        have k1' := blk_cell HST1.out.course 1
        simp only [List.getElem?_toArray, List.getElem?_cons_zero, List.getElem?_cons_succ] at k0 k1'
        have hal : acc.length ≤ 1000000 := by have := HBK.out.len; omega
        have HRV := Lib.hid (reverse_calls acc _ w3.heap.size V1 HST1.out.row hal)
        go_wp2_with fail
        refine HRV.out.mono ?_
        rintro e V3 ⟨rfl, hro, hgr⟩
        have hrb : ∀ b, (Value.slice A' acc.length c').ownBlock = some b → w3.heap.size ≤ b := fun b hb => (HST1.out.row.lt b hb).1
        have gc3 : V3.heap[w4.heap.size + 1]? = some (.cells #[iv t, .slice A' acc.length c'] 95 (0, 0)) := blk_grown HST1.out.course hgr (fun e => by
          obtain ⟨cur, hcur⟩ := HST1.out.row.isCells e.symm
          rw [HST1.out.course] at hcur
          simp at hcur)
        have gz1 := blk_below GZ3.out HST1.out.below
        have lz1 := blk_lt GZ3.out
        have gz3 : V3.heap[w.heap.size + 1 + 1 + 1]? = some (.cells #[iv 0, .slice none 0 0] 95 (0, 0)) := blk_grown gz1 hgr (fun e => by have := hrb _ e.symm; omega)
        have gm3 := HST1.out.marks.grown hgr (fun d hd e => by
          obtain ⟨cur, hcur⟩ := HST1.out.row.isCells e
          have := (HST1.out.marks.1 d hd).1
          rw [hcur] at this
          simp at this)
        have hs3 := HB3.out.size
        have hs3V := HST1.out.below.size
        have gb3 : Below w3.heap.size w3 V3 := HST1.out.below.grown hgr hs3V hrb
        have GC3 := Lib.hid gc3
        have GZ3' := Lib.hid gz3
        have GM3 := Lib.hid gm3
        have GB3 := Lib.hid gb3
        have GO3 := Lib.hid hro
        clear k0 k1' HRV hgr hro gb3 gm3 gz1
        have k0 := blk_cell gc3 0
        have k1' := blk_cell gc3 1
        simp only [List.getElem?_toArray, List.getElem?_cons_zero, List.getElem?_cons_succ] at k0 k1'
        have z0 := blk_cell gz3 0
        have z1 := blk_cell gz3 1
        simp only [List.getElem?_toArray, List.getElem?_cons_zero, List.getElem?_cons_succ] at z0 z1
        have zf0 := blk_frozen gz3 0
        have zf1 := blk_frozen gz3 1
        have lz3 := blk_lt gz3
        have lc3 := blk_lt gc3
        clear gc3 gz3
        go_wp2_with fail
        refine wp_abs_post (fun U hU => ?_)
        have uz : U.heap[w.heap.size + 1 + 1 + 1]? = some (.cells #[iv t, .slice A' acc.length c'] 95 (0, 0)) := by rw [hU]; exact blk_set2 GZ3'.out _ _
        have hvg2 : ∀ i, (Value.slice A' acc.length c').ownBlock ≠ some (⟨w.heap.size + 1 + 1 + 1, i, none⟩ : Addr).block := fun i e => by have := hrb _ e; simp at this; omega
        have uo : Own DPlace.cs 2 48 w3.heap.size U (.slice A' acc.length c') acc.reverse := by rw [hU]; exact (GO3.out.set (hvg2 0) _).set (hvg2 1) _
        have um : Marks w3.heap.size ds U := by
          rw [hU]
          exact (GM3.out.set GZ3'.out 0 _).set (blk_set GZ3'.out 0 _) 1 _
        have ub : Below w.heap.size w U := by
          rw [hU]
          exact ((bl_step HB3.out GB3.out).setCell (p := ⟨w.heap.size + 1 + 1 + 1, 0, none⟩) (by simp; omega) _).setCell (p := ⟨w.heap.size + 1 + 1 + 1, 1, none⟩) (by simp; omega) _
        clear hU z0 z1 zf0 zf1 k0 k1' lz3 lc3
        refine end_marks (base := w3.heap.size) ds (.tuple #[.agg #[iv t, .slice A' acc.length c'], .bool true, iv 0]) rfl um ?_ ?_
        · intro X hX
          have xz := hX.blk uz (fun hd => by have := (um.1 _ hd).2; omega)
          have z0 := blk_cell xz 0
          have z1 := blk_cell xz 1
          simp only [List.getElem?_toArray, List.getElem?_cons_zero, List.getElem?_cons_succ] at z0 z1
          simp [results, Tryz.results73, go_sem, z0, z1]
        · intro X hX
          refine ⟨t, _, acc.reverse, rfl, (uo.fix hX (fun b hb hd => ?_)).mono hs3, ?_, bl_fix (N := w3.heap.size) ub (Nat.le_refl _) hs3 (hX.mono fun b _ hb hd => by have := (um.1 _ hd).2; omega)⟩
          · obtain ⟨cur, hcur⟩ := uo.isCells hb
            rw [(um.1 _ hd).1] at hcur
            simp at hcur
          · rw [if_pos rfl]; exact HBK.out.course HBG.out.symm
    | false =>
      have z0 := blk_cell GZ4.out 0
      have z1 := blk_cell GZ4.out 1
      simp only [List.getElem?_toArray, List.getElem?_cons_zero, List.getElem?_cons_succ] at z0 z1
      have zf0 := blk_frozen GZ4.out 0
      have zf1 := blk_frozen GZ4.out 1
      have lz := blk_lt GZ4.out
      go_wp2_with fail
      refine wp_abs_post (fun U hU => ?_)
      have uz : U.heap[w.heap.size + 1 + 1 + 1]? = some (.cells #[iv 0, .slice none 0 0] 95 (0, 0)) := by rw [hU]; exact blk_set2 GZ4.out _ _
      have ub : Below w.heap.size w U := by
        rw [hU]
        exact (HB4.out.setCell (p := ⟨w.heap.size + 1 + 1 + 1, 0, none⟩) (by simp; omega) _).setCell (p := ⟨w.heap.size + 1 + 1 + 1, 1, none⟩) (by simp; omega) _
      clear hU z0 z1 zf0 zf1
      refine end_marks (base := w.heap.size) [] (.tuple #[.agg #[iv 0, .slice none 0 0], .bool false, iv 0]) rfl (Marks.nil _ _) ?_ ?_
      · intro X hX
        have xz := hX.blk uz (fun hd => by simp at hd)
        have z0 := blk_cell xz 0
        have z1 := blk_cell xz 1
        simp only [List.getElem?_toArray, List.getElem?_cons_zero, List.getElem?_cons_succ] at z0 z1
        simp [results, Tryz.results73, go_sem, z0, z1]
      · intro X hX
        exact ⟨0, _, [], rfl, Own.nil _ _, by rw [if_neg (by decide)]; exact ⟨rfl, rfl⟩, bl_fix (N := w.heap.size) ub (Nat.le_refl _) (Nat.le_refl _) (hX.mono fun b _ hb hd => by simp at hd)⟩
  · have HC := askedP_bad s l x p known f h _ _ vl _ W0 hf (H1.out.below hB) (H2.out.below hB) (H3.out.below hB) gp
    rw [← her] at HC
    have his : is = false := by rw [HI.out]; simp [he]
    subst his
    have h0' : (er != 0) = true := by simp [bne, he]
    refine HC.mono ?_
    rintro e w1 ⟨q0, q1, B2, n2, c2, B3, n3, c3, B4, n4, c4, q5, rfl, hb1⟩
    have HB1 := Lib.hid (bl_step hB hb1)
    have GZ := Lib.hid (blk_below gz hb1)
    have lz := blk_lt GZ.out
    have z0 := blk_cell GZ.out 0
    have z1 := blk_cell GZ.out 1
    simp only [List.getElem?_toArray, List.getElem?_cons_zero, List.getElem?_cons_succ] at z0 z1
    have zf0 := blk_frozen GZ.out 0
    have zf1 := blk_frozen GZ.out 1
    clear he her HC hb1 g1 gp gz hB
    go_wp2_with fail
    refine wp_abs_post (fun U hU => ?_)
    have uz : U.heap[w.heap.size + 1 + 1 + 1]? = some (.cells #[iv 0, .slice none 0 0] 95 (0, 0)) := by rw [hU]; exact blk_alloc (blk_set2 GZ.out _ _) _
    have ub : Below w.heap.size w U := by
      rw [hU]
      refine Below.alloc ?_ (by have := HB1.out.size; simp; omega) _
      have hbx := HB1.out
      repeat (first | (with_reducible exact hbx) | refine Below.setCell ?_ (by first | (simp; done) | (simp; omega)) _)
    clear hU z0 z1 zf0 zf1
    refine end_marks (base := w.heap.size) [] (.tuple #[.agg #[iv 0, .slice none 0 0], .bool false, iv er]) rfl (Marks.nil _ _) ?_ ?_
    · intro X hX
      have xz := hX.blk uz (fun hd => by simp at hd)
      have z0 := blk_cell xz 0
      have z1 := blk_cell xz 1
      simp only [List.getElem?_toArray, List.getElem?_cons_zero, List.getElem?_cons_succ] at z0 z1
      simp [results, Tryz.results73, go_sem, z0, z1]
    · intro X hX
      exact ⟨0, _, [], rfl, Own.nil _ _, by rw [if_neg (by decide)]; exact ⟨rfl, rfl⟩, bl_fix (N := w.heap.size) ub (Nat.le_refl _) (Nat.le_refl _) (hX.mono fun b _ hb hd => by simp at hd)⟩
end Go.Proofs.YtjekioabkmijbaaGreatDoor
