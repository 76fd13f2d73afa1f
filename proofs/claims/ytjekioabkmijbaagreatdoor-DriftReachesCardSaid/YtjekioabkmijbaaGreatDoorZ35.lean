/- drifting: the chapter's examples hold. -/
import Derived.Test.YtjekioabkmijbaaGreatDoorZ33
import Derived.Test.YtjekioabkmijbaaGreatDoorZ34
import Derived.Test.YtjekioabkmijbaaGreatDoorZ01
set_option linter.unusedVariables false
set_option linter.unusedSimpArgs false
namespace Go.Proofs.YtjekioabkmijbaaGreatDoor
open Go.RowKit
theorem shoreB_eq : shoreB = ⟨#[115, 101, 97, 32, 53, 32, 50, 10, 104, 101, 105, 103, 104, 116, 115, 32, 52, 32, 52, 32, 57, 32, 52, 32, 52, 10, 116, 105, 100, 101, 32, 49, 32, 50, 10, 116, 105, 100, 101, 32, 48, 32, 53, 10, 116, 105, 100, 101, 32, 45, 49, 32, 50, 10, 116, 105, 100, 101, 32, 48, 32, 48, 10]⟩ := by decide +kernel
theorem own_fresh {α : Type} (cs : α → List Value) (k e : Nat) (xs : List α) (w : World) (hk : ∀ x, (cs x).length = k) (hl : xs.length ≤ 1000000) : Own cs k e w.heap.size (w.alloc (.cells (xs.flatMap cs).toArray e)) (.slice (some ⟨w.heap.size, 0, none⟩) xs.length xs.length) xs := by
  have hf := flatMap_len (cs := cs) (k := k) hk xs
  refine ⟨hf, .inr ⟨w.heap.size, xs.length, _, rfl, Nat.le_refl _, blk_new _ _, Nat.le_refl _, by unfold maxLen; omega, by simpa using hf, by rw [← hf, List.take_length]⟩⟩
theorem winds75_calls (w : World) : Calls Tryz.prog 75 #[] w fun e w' => ∃ v, e = .returned v ∧ Own DWind.cs 9 53 w.heap.size w' v shoreW ∧ Below w.heap.size w w' := by
  go_enter Tryz.func75, Tryz.ntmps75
  go_wp2
  refine bodyPost_ret (v := .slice (some ⟨w.heap.size, 0, none⟩) 2 2) (by simp [results, Tryz.results75, go_sem]) rfl ⟨_, rfl, own_fresh DWind.cs 9 53 shoreW w (fun _ => rfl) (by decide), bl_alloc (Below.refl _ _) _⟩
set_option maxRecDepth 100000 in
theorem eqFault (w : World) : (Op.equalIn 10000 63 (.agg #[iv 0, iv 0]) (.agg #[iv 0, iv 0])).run Tryz.prog w = .ok true w := by kernel_rfl
def Shore (bs bx : Nat) (A1 : Option Addr) (k1 : Nat) (A2 : Option Addr) (k2 : Nat) (A3 : Option Addr) (k3 : Nat) (V : World) : Prop :=
  V.heap[bs]? = some (.cells #[iv shoreSea.cells, iv shoreSea.bands, .slice A1 shoreSea.hts.length k1, .slice A2 shoreSea.tds.length k2] 25 (0, 0)) ∧ V.heap[bs + 1]? = some (.cells #[iv 0, iv 0] 63 (0, 0)) ∧ V.heap[bx]? = some (.cells (lossA shoreX) 30 (0, 0)) ∧
    Sl intCs 1 V (.slice A1 shoreSea.hts.length k1) shoreSea.hts ∧ Sl DTide.cs 2 V (.slice A2 shoreSea.tds.length k2) shoreSea.tds ∧ Sl DWind.cs 9 V (.slice A3 shoreW.length k3) shoreW
theorem Shore.below {bs bx : Nat} {A1 : Option Addr} {k1 : Nat} {A2 : Option Addr} {k2 : Nat} {A3 : Option Addr} {k3 : Nat} {V V' : World} (h : Shore bs bx A1 k1 A2 k2 A3 k3 V) (hb : Below V.heap.size V V') : Shore bs bx A1 k1 A2 k2 A3 k3 V' :=
  ⟨blk_below h.1 hb, blk_below h.2.1 hb, blk_below h.2.2.1 hb, h.2.2.2.1.below hb, h.2.2.2.2.1.below hb, h.2.2.2.2.2.below hb⟩
theorem Shore.cells {bs bx : Nat} {A1 : Option Addr} {k1 : Nat} {A2 : Option Addr} {k2 : Nat} {A3 : Option Addr} {k3 : Nat} {V : World} (h : Shore bs bx A1 k1 A2 k2 A3 k3 V) :
    (V.cell? ⟨bs, 0, none⟩ = some (iv shoreSea.cells) ∧ V.cell? ⟨bs, 1, none⟩ = some (iv shoreSea.bands) ∧ V.cell? ⟨bs, 2, none⟩ = some (.slice A1 shoreSea.hts.length k1) ∧ V.cell? ⟨bs, 3, none⟩ = some (.slice A2 shoreSea.tds.length k2)) ∧
    (V.cell? ⟨bs + 1, 0, none⟩ = some (iv 0) ∧ V.cell? ⟨bs + 1, 1, none⟩ = some (iv 0)) ∧
    (V.cell? ⟨bx, 0, none⟩ = some (iv 1) ∧ V.cell? ⟨bx, 1, none⟩ = some (iv 1) ∧ V.cell? ⟨bx, 2, none⟩ = some (iv 1) ∧ V.cell? ⟨bx, 3, none⟩ = some (iv 2) ∧ V.cell? ⟨bx, 4, none⟩ = some (iv 2) ∧ V.cell? ⟨bx, 5, none⟩ = some (iv 0) ∧ V.cell? ⟨bx, 6, none⟩ = some (iv 0)) ∧ bs + 1 < V.heap.size ∧ bx < V.heap.size :=
  ⟨⟨blk_cell h.1 0, blk_cell h.1 1, blk_cell h.1 2, blk_cell h.1 3⟩, ⟨blk_cell h.2.1 0, blk_cell h.2.1 1⟩, loss_cells h.2.2.1, blk_lt h.2.1, blk_lt h.2.2.1⟩
set_option maxHeartbeats 8000000 in
set_option maxRecDepth 20000 in
theorem drifting_calls (w : World) (hE : Env w) : Calls Tryz.prog 21 #[] w fun e w' => e = .returned (.bool true) ∧ Below w.heap.size w w' := by
  have HP := Lib.hid (parse_calls shoreB w hE (by decide +kernel))
  rw [shore_is, shoreB_eq] at HP
  clear hE
  go_enter Tryz.func21, Tryz.ntmps21
  go_wp2_with fail
  refine HP.out.mono ?_
  rintro e w1 ⟨vh, vt, rfl, hh, ht, hb1⟩
  dsimp only at hh ht
  obtain ⟨A1, k1, rfl⟩ := hh.slice
  obtain ⟨A2, k2, rfl⟩ := ht.slice
  have HH := Lib.hid hh
  have HT := Lib.hid ht
  have HB1 := Lib.hid hb1
  clear hh ht hb1 HP
  go_wp2_with fail
  refine calls_abs (fun W hW => ?_)
  have gs : W.heap[w1.heap.size]? = some (.cells #[iv shoreSea.cells, iv shoreSea.bands, .slice A1 shoreSea.hts.length k1, .slice A2 shoreSea.tds.length k2] 25 (0, 0)) := by rw [hW]; exact blk_alloc (blk_new _ _) _
  have gf : W.heap[w1.heap.size + 1]? = some (.cells #[iv 0, iv 0] 63 (0, 0)) := by rw [hW]; exact blk_at _ (by simp)
  have hbW : Below w1.heap.size w1 W := by rw [hW]; exact bl_alloc (bl_alloc (Below.refl _ _) _) _
  clear hW
  refine (winds75_calls W).mono ?_
  rintro e w2 ⟨vl, rfl, hl, hb2⟩
  obtain ⟨A3, k3, rfl⟩ := hl.slice
  have hb12 : Below w1.heap.size w1 w2 := hbW.trans (hb2.mono hbW.size)
  have GS := Lib.hid (blk_below gs hb2)
  have GF := Lib.hid (blk_below gf hb2)
  have HL := Lib.hid hl
  have HB2 := Lib.hid (bl_step HB1.out hb12)
  have HH2 := Lib.hid (HH.out.below hb12)
  have HT2 := Lib.hid (HT.out.below hb12)
  have hsw := hb12.size
  clear gs gf hl hb2 hb12 hbW HH HT
  have c0 := blk_cell GS.out 0
  have c1 := blk_cell GS.out 1
  have c2 := blk_cell GS.out 2
  have c3 := blk_cell GS.out 3
  simp only [List.getElem?_toArray, List.getElem?_cons_zero, List.getElem?_cons_succ] at c0 c1 c2 c3
  have ls := blk_lt GS.out
  go_wp2_with fail
  refine calls_abs (fun V0 hW => ?_)
  have hbV : Below w2.heap.size w2 V0 := by rw [hW]; exact bl_alloc (Below.refl _ _) _
  have gx : V0.heap[w2.heap.size]? = some (.cells (lossA shoreX) 30 (0, 0)) := by rw [hW]; exact blk_new _ _
  obtain ⟨bs, hbs⟩ : ∃ q, q = w1.heap.size := ⟨_, rfl⟩
  obtain ⟨bx, hbx⟩ : ∃ q, q = w2.heap.size := ⟨_, rfl⟩
  have HS0 : Hid (Shore bs bx A1 k1 A2 k2 A3 k3 V0) := by
    rw [hbs, hbx]
    exact ⟨blk_below GS.out hbV, blk_below GF.out hbV, gx, (HH2.out.below hbV).sl (fun _ => rfl) (by decide), (HT2.out.below hbV).sl (fun _ => rfl) (by decide), (HL.out.below hbV).sl (fun _ => rfl) (by decide)⟩
  have HB0 := Lib.hid (bl_step HB2.out hbV)
  rw [← hbs, ← hbx]
  clear hW hbV gx c0 c1 c2 c3 ls hbs hbx GS GF HL HH2 HT2 hsw
  refine (reach_calls shoreSea shoreW shoreX 0 1 3 _ _ _ V0 (by decide) HS0.out.2.2.2.1 HS0.out.2.2.2.2.1 HS0.out.2.2.2.2.2).mono ?_
  rintro e v1 ⟨v, rfl, ho, hb⟩
  rw [shore_reach] at ho
  rw [shore_errs.1]
  obtain ⟨B1, j1, rfl⟩ := ho.slice
  have HS1 := Lib.hid (HS0.out.below hb)
  have HB1 := Lib.hid (bl_step HB0.out hb)
  have HA1 := Lib.hid ho
  clear hb ho
  obtain ⟨⟨c0, c1, c2, c3⟩, ⟨f0, f1⟩, ⟨d0, d1, d2, d3, d4, d5, d6⟩, lf, lx⟩ := HS1.out.cells
  have lb := Nat.lt_of_succ_lt lf
  go_wp2_with fail
  clear lb c0 c1 c2 c3 f0 f1 d0 d1 d2 d3 d4 d5 d6 lf lx
  refine (beaches_calls shoreSea shoreW shoreX 3 1 4 _ _ _ v1 (by decide) HS1.out.2.2.2.1 HS1.out.2.2.2.2.1 HS1.out.2.2.2.2.2).mono ?_
  rintro e v2 ⟨v, rfl, ho, hb⟩
  rw [shore_beach] at ho
  rw [shore_errs.2.1]
  obtain ⟨B2, j2, rfl⟩ := ho.slice
  have HS2 := Lib.hid (HS1.out.below hb)
  have HB2 := Lib.hid (bl_step HB1.out hb)
  replace HA1 := Lib.hid (HA1.out.below hb)
  have HA2 := Lib.hid ho
  clear hb ho
  obtain ⟨⟨c0, c1, c2, c3⟩, ⟨f0, f1⟩, ⟨d0, d1, d2, d3, d4, d5, d6⟩, lf, lx⟩ := HS2.out.cells
  have lb := Nat.lt_of_succ_lt lf
  go_wp2_with fail
  clear lb c0 c1 c2 c3 f0 f1 d0 d1 d2 d3 d4 d5 d6 lf lx
  refine (landings_calls shoreSea shoreW shoreX 0 1 4 _ _ _ v2 (by decide) HS2.out.2.2.2.1 HS2.out.2.2.2.2.1 HS2.out.2.2.2.2.2).mono ?_
  rintro e v3 ⟨v, rfl, ho, hb⟩
  rw [shore_land] at ho
  rw [shore_errs.2.1]
  obtain ⟨B3, j3, rfl⟩ := ho.slice
  have HS3 := Lib.hid (HS2.out.below hb)
  have HB3 := Lib.hid (bl_step HB2.out hb)
  replace HA1 := Lib.hid (HA1.out.below hb)
  replace HA2 := Lib.hid (HA2.out.below hb)
  have HA3 := Lib.hid ho
  clear hb ho
  obtain ⟨⟨c0, c1, c2, c3⟩, ⟨f0, f1⟩, ⟨d0, d1, d2, d3, d4, d5, d6⟩, lf, lx⟩ := HS3.out.cells
  have lb := Nat.lt_of_succ_lt lf
  go_wp2_with fail
  clear lb c0 c1 c2 c3 f0 f1 d0 d1 d2 d3 d4 d5 d6 lf lx
  refine (courseTo_calls shoreSea shoreW shoreX ⟨2, 0⟩ 0 1 4 _ _ _ v3 (by decide) HS3.out.2.2.2.1 HS3.out.2.2.2.2.1 HS3.out.2.2.2.2.2).mono ?_
  rintro e v4 ⟨cf, v, ps, rfl, ho, _, hb⟩
  rw [shore_course, shore_errs.2.2.1]
  obtain ⟨B4, j4, rfl⟩ := ho.slice
  have HS4 := Lib.hid (HS3.out.below hb)
  have HB4 := Lib.hid (bl_step HB3.out hb)
  replace HA1 := Lib.hid (HA1.out.below hb)
  replace HA2 := Lib.hid (HA2.out.below hb)
  replace HA3 := Lib.hid (HA3.out.below hb)
  clear hb 
  obtain ⟨⟨c0, c1, c2, c3⟩, ⟨f0, f1⟩, ⟨d0, d1, d2, d3, d4, d5, d6⟩, lf, lx⟩ := HS4.out.cells
  have lb := Nat.lt_of_succ_lt lf
  go_wp2_with fail
  clear lb c0 c1 c2 c3 f0 f1 d0 d1 d2 d3 d4 d5 d6 lf lx
  refine calls_abs (fun V4 hW => ?_)
  have hb : Below v4.heap.size v4 V4 := by rw [hW]; exact bl_alloc (Below.refl _ _) _
  clear hW
  replace HS4 := Lib.hid (HS4.out.below hb)
  replace HB4 := Lib.hid (bl_step HB4.out hb)
  replace HA1 := Lib.hid (HA1.out.below hb)
  replace HA2 := Lib.hid (HA2.out.below hb)
  replace HA3 := Lib.hid (HA3.out.below hb)
  clear hb
  refine (barTo_calls shoreSea shoreW shoreX ⟨3, 0⟩ 0 1 4 _ _ _ V4 (by decide) HS4.out.2.2.2.1 HS4.out.2.2.2.2.1 HS4.out.2.2.2.2.2).mono ?_
  rintro e v5 ⟨v, rfl, ho, hb⟩
  rw [shore_bar, shore_errs.2.2.2.1]
  have HS5 := Lib.hid (HS4.out.below hb)
  have HB5 := Lib.hid (bl_step HB4.out hb)
  replace HA1 := Lib.hid (HA1.out.below hb)
  replace HA2 := Lib.hid (HA2.out.below hb)
  replace HA3 := Lib.hid (HA3.out.below hb)
  clear hb 
  have hbar : ∃ B j m, v = .slice B m j := by
    obtain ⟨vs, hov, _⟩ := ho
    exact (hov.slice).elim fun A h => h.elim fun c h => ⟨A, c, _, h⟩
  obtain ⟨B5, j5, m5, rfl⟩ := hbar
  obtain ⟨⟨c0, c1, c2, c3⟩, ⟨f0, f1⟩, ⟨d0, d1, d2, d3, d4, d5, d6⟩, lf, lx⟩ := HS5.out.cells
  have lb := Nat.lt_of_succ_lt lf
  go_wp2_with fail
  clear lb c0 c1 c2 c3 f0 f1 d0 d1 d2 d3 d4 d5 d6 lf lx
  refine calls_abs (fun V5 hW => ?_)
  have hb : Below v5.heap.size v5 V5 := by rw [hW]; exact bl_alloc (Below.refl _ _) _
  clear hW
  replace HS5 := Lib.hid (HS5.out.below hb)
  replace HB5 := Lib.hid (bl_step HB5.out hb)
  replace HA1 := Lib.hid (HA1.out.below hb)
  replace HA2 := Lib.hid (HA2.out.below hb)
  replace HA3 := Lib.hid (HA3.out.below hb)
  clear hb
  refine (lineage_calls shoreSea shoreW shoreX ⟨4, 0⟩ 3 1 4 _ _ _ V5 (by decide) HS5.out.2.2.2.1 HS5.out.2.2.2.2.1 HS5.out.2.2.2.2.2).mono ?_
  rintro e v6 ⟨v, rfl, ho, hb⟩
  rw [shore_line.1] at ho
  rw [shore_line.2, shore_errs.2.2.2.2]
  obtain ⟨B6, j6, rfl⟩ := ho.slice
  have HS6 := Lib.hid (HS5.out.below hb)
  have HB6 := Lib.hid (bl_step HB5.out hb)
  replace HA1 := Lib.hid (HA1.out.below hb)
  replace HA2 := Lib.hid (HA2.out.below hb)
  replace HA3 := Lib.hid (HA3.out.below hb)
  have HA4 := Lib.hid ho
  clear hb ho
  obtain ⟨⟨c0, c1, c2, c3⟩, ⟨f0, f1⟩, ⟨d0, d1, d2, d3, d4, d5, d6⟩, lf, lx⟩ := HS6.out.cells
  have lb := Nat.lt_of_succ_lt lf
  go_wp2_with fail
  clear lb c0 c1 c2 c3 f0 f1 d0 d1 d2 d3 d4 d5 d6 lf lx
  refine (touched_calls shoreSea shoreW shoreX 0 3 1 4 _ _ _ v6 (by decide) HS6.out.2.2.2.1 HS6.out.2.2.2.2.1 HS6.out.2.2.2.2.2).mono ?_
  rintro e v7 ⟨v, rfl, ho, hb⟩
  rw [shore_touch] at ho
  rw [shore_errs.2.1]
  obtain ⟨B7, j7, rfl⟩ := ho.slice
  have HS7 := Lib.hid (HS6.out.below hb)
  have HB7 := Lib.hid (bl_step HB6.out hb)
  replace HA1 := Lib.hid (HA1.out.below hb)
  replace HA2 := Lib.hid (HA2.out.below hb)
  replace HA3 := Lib.hid (HA3.out.below hb)
  replace HA4 := Lib.hid (HA4.out.below hb)
  have HA5 := Lib.hid ho
  clear hb ho
  have heq := eqFault
  obtain ⟨⟨c0, c1, c2, c3⟩, ⟨f0, f1⟩, ⟨d0, d1, d2, d3, d4, d5, d6⟩, lf, lx⟩ := HS7.out.cells
  have lb := Nat.lt_of_succ_lt lf
  go_wp2_with fail
  clear lb c0 c1 c2 c3 f0 f1 d0 d1 d2 d3 d4 d5 d6 lf lx
  have HC0 := HB7
  refine calls_abs (fun U1 hW => ?_)
  have hb : Below v7.heap.size v7 U1 := by rw [hW]; exact bl_alloc (Below.refl _ _) _
  have hlit : Own DPlace.cs 2 48 v7.heap.size U1 (.slice (some ⟨v7.heap.size, 0, none⟩) 4 4) [(⟨1, 0⟩ : DPlace), ⟨1, 1⟩, ⟨1, 2⟩, ⟨2, 0⟩] := by rw [hW]; exact own_fresh DPlace.cs 2 48 [(⟨1, 0⟩ : DPlace), ⟨1, 1⟩, ⟨1, 2⟩, ⟨2, 0⟩] v7 (fun _ => rfl) (by decide)
  clear hW
  refine (samePlaces_calls _ _ _ _ U1 ((HA1.out.below hb).sl (fun _ => rfl) (by decide)) (hlit.sl (fun _ => rfl) (by decide))).mono ?_
  rintro e x1 ⟨rfl, hb2⟩
  rw [decide_eq_true rfl]
  have hb3 : Below v7.heap.size v7 x1 := bl_step hb hb2
  have HC1 := Lib.hid (bl_step HC0.out hb3)
  replace HA1 := Lib.hid (HA1.out.below hb3)
  replace HA2 := Lib.hid (HA2.out.below hb3)
  replace HA3 := Lib.hid (HA3.out.below hb3)
  replace HA4 := Lib.hid (HA4.out.below hb3)
  replace HA5 := Lib.hid (HA5.out.below hb3)
  clear hb hb2 hb3 hlit
  go_wp2_with fail
  refine calls_abs (fun U2 hW => ?_)
  have hb : Below x1.heap.size x1 U2 := by rw [hW]; exact bl_alloc (Below.refl _ _) _
  have hlit : Own intCs 1 3 x1.heap.size U2 (.slice (some ⟨x1.heap.size, 0, none⟩) 3 3) [(1 : Int), 2, 3] := by rw [hW]; exact own_fresh intCs 1 3 [(1 : Int), 2, 3] x1 (fun _ => rfl) (by decide)
  clear hW
  refine (sameInts_calls _ _ _ _ U2 ((HA2.out.below hb).sl (fun _ => rfl) (by decide)) (hlit.sl (fun _ => rfl) (by decide))).mono ?_
  rintro e x2 ⟨rfl, hb2⟩
  rw [decide_eq_true rfl]
  have hb3 : Below x1.heap.size x1 x2 := bl_step hb hb2
  have HC2 := Lib.hid (bl_step HC1.out hb3)
  replace HA1 := Lib.hid (HA1.out.below hb3)
  replace HA2 := Lib.hid (HA2.out.below hb3)
  replace HA3 := Lib.hid (HA3.out.below hb3)
  replace HA4 := Lib.hid (HA4.out.below hb3)
  replace HA5 := Lib.hid (HA5.out.below hb3)
  clear hb hb2 hb3 hlit
  go_wp2_with fail
  refine calls_abs (fun U3 hW => ?_)
  have hb : Below x2.heap.size x2 U3 := by rw [hW]; exact bl_alloc (Below.refl _ _) _
  have hlit : Own intCs 1 3 x2.heap.size U3 (.slice (some ⟨x2.heap.size, 0, none⟩) 1 1) [(1 : Int)] := by rw [hW]; exact own_fresh intCs 1 3 [(1 : Int)] x2 (fun _ => rfl) (by decide)
  clear hW
  refine (sameInts_calls _ _ _ _ U3 ((HA4.out.below hb).sl (fun _ => rfl) (by decide)) (hlit.sl (fun _ => rfl) (by decide))).mono ?_
  rintro e x3 ⟨rfl, hb2⟩
  rw [decide_eq_true rfl]
  have hb3 : Below x2.heap.size x2 x3 := bl_step hb hb2
  have HC3 := Lib.hid (bl_step HC2.out hb3)
  replace HA1 := Lib.hid (HA1.out.below hb3)
  replace HA2 := Lib.hid (HA2.out.below hb3)
  replace HA3 := Lib.hid (HA3.out.below hb3)
  replace HA4 := Lib.hid (HA4.out.below hb3)
  replace HA5 := Lib.hid (HA5.out.below hb3)
  clear hb hb2 hb3 hlit
  go_wp2_with fail
  refine calls_abs (fun U4 hW => ?_)
  have hb : Below x3.heap.size x3 U4 := by rw [hW]; exact bl_alloc (Below.refl _ _) _
  have hlit : Own DLand.cs 3 86 x3.heap.size U4 (.slice (some ⟨x3.heap.size, 0, none⟩) 2 2) [(⟨1, 3, 4⟩ : DLand), ⟨2, 2, 2⟩] := by rw [hW]; exact own_fresh DLand.cs 3 86 [(⟨1, 3, 4⟩ : DLand), ⟨2, 2, 2⟩] x3 (fun _ => rfl) (by decide)
  clear hW
  refine (sameLands_calls _ _ _ _ U4 ((HA3.out.below hb).sl (fun _ => rfl) (by decide)) (hlit.sl (fun _ => rfl) (by decide))).mono ?_
  rintro e x4 ⟨rfl, hb2⟩
  rw [decide_eq_true rfl]
  have hb3 : Below x3.heap.size x3 x4 := bl_step hb hb2
  have HC4 := Lib.hid (bl_step HC3.out hb3)
  replace HA1 := Lib.hid (HA1.out.below hb3)
  replace HA2 := Lib.hid (HA2.out.below hb3)
  replace HA3 := Lib.hid (HA3.out.below hb3)
  replace HA4 := Lib.hid (HA4.out.below hb3)
  replace HA5 := Lib.hid (HA5.out.below hb3)
  clear hb hb2 hb3 hlit
  go_wp2_with fail
  refine calls_abs (fun U5 hW => ?_)
  have hb : Below x4.heap.size x4 U5 := by rw [hW]; exact bl_alloc (Below.refl _ _) _
  have hlit : Own DPlace.cs 2 48 x4.heap.size U5 (.slice (some ⟨x4.heap.size, 0, none⟩) 3 3) [(⟨1, 1⟩ : DPlace), ⟨1, 2⟩, ⟨3, 0⟩] := by rw [hW]; exact own_fresh DPlace.cs 2 48 [(⟨1, 1⟩ : DPlace), ⟨1, 2⟩, ⟨3, 0⟩] x4 (fun _ => rfl) (by decide)
  clear hW
  refine (samePlaces_calls _ _ _ _ U5 ((HA5.out.below hb).sl (fun _ => rfl) (by decide)) (hlit.sl (fun _ => rfl) (by decide))).mono ?_
  rintro e x5 ⟨rfl, hb2⟩
  rw [decide_eq_true rfl]
  have hb3 : Below x4.heap.size x4 x5 := bl_step hb hb2
  have HC5 := Lib.hid (bl_step HC4.out hb3)
  replace HA1 := Lib.hid (HA1.out.below hb3)
  replace HA2 := Lib.hid (HA2.out.below hb3)
  replace HA3 := Lib.hid (HA3.out.below hb3)
  replace HA4 := Lib.hid (HA4.out.below hb3)
  replace HA5 := Lib.hid (HA5.out.below hb3)
  clear hb hb2 hb3 hlit
  go_wp2_with fail
  refine bodyPost_ret (v := .bool true) (by simp [results, Tryz.results21, go_sem]) rfl ⟨rfl, HC5.out⟩
end Go.Proofs.YtjekioabkmijbaaGreatDoor
/- The law's own helpers; the reference's within. -/
set_option linter.unusedVariables false
set_option linter.unusedSimpArgs false
namespace Go.Proofs.YtjekioabkmijbaaGreatDoor
open Go.RowKit
theorem within106_calls (n a b : Int) (w : World) : Calls Tryz.prog 106 #[iv n, iv a, iv b] w fun e w' => e = .returned (.bool (inB n a b)) ∧ w' = w := by
  by_cases h : a ≤ n
  · have e : inB n a b = decide (n ≤ b) := by unfold inB; simp [h]
    rw [e]
    clear e
    go_enter Tryz.func106, Tryz.ntmps106
    go_wp2
    go_ret
    exact ⟨rfl, rfl⟩
  · have e : inB n a b = false := by unfold inB; simp [h]
    rw [e]
    clear e
    go_enter Tryz.func106, Tryz.ntmps106
    go_wp2
    go_ret
    exact ⟨rfl, rfl⟩
/-- It answers yes or no. -/
def SaysBool (w : World) (e : Ending) (w' : World) : Prop := (∃ b, e = .returned (.bool b)) ∧ Below w.heap.size w w'
set_option maxHeartbeats 4000000 in
theorem near_calls (x : DLoss) (h : Int) (w : World) : Calls Tryz.prog 20 #[lossV x, iv h] w fun e w' => SaysBool w e w' := by
  go_enter Tryz.func20, Tryz.ntmps20
  go_wp2
  all_goals (go_ret; exact ⟨⟨_, rfl⟩, bl_alloc (Below.refl _ _) _⟩)
end Go.Proofs.YtjekioabkmijbaaGreatDoor
