/- The three forms of lines. -/
import Derived.Test.YtjekioabkmijbaaGreatDoorZ29
import Derived.Test.YtjekioabkmijbaaGreatDoorZ09
import Derived.Test.YtjekioabkmijbaaGreatDoorZ03
import Derived.Deep.RegionWith
set_option linter.unusedVariables false
set_option linter.unusedSimpArgs false
namespace Go.Proofs.YtjekioabkmijbaaGreatDoor
open Go.RowKit
def EnvB (N : Nat) (w : World) : Prop := N ≤ w.heap.size ∧ ∀ w', Below N w w' → Env w'
theorem EnvB.below {N : Nat} {w w' : World} (h : EnvB N w) (hb : Below N w w') : EnvB N w' := ⟨Nat.le_trans h.1 hb.size, fun w2 h2 => h.2 w2 (hb.trans h2)⟩
theorem EnvB.env {N : Nat} {w : World} (h : EnvB N w) : Env w := h.2 w (Below.refl _ _)
structure RS where
  sea : DSea
  line : Int
/-- The reader in block r; X: the blocks that are its own. -/
def Rdr (r : Nat) (X : Nat → Prop) (S : RS) (w : World) : Prop :=
  ∃ vh vt, w.heap[r]? = some (.cells #[iv S.sea.cells, iv S.sea.bands, vh, vt, iv S.line] 141 (0, 0)) ∧ Own intCs 1 3 (r + 1) w vh S.sea.hts ∧ Own DTide.cs 2 138 (r + 1) w vt S.sea.tds ∧
    (∀ b, vh.ownBlock = some b → vt.ownBlock = some b → False) ∧ X r ∧ (∀ b, vh.ownBlock = some b → X b) ∧ (∀ b, vt.ownBlock = some b → X b) ∧ (∀ b, X b → r ≤ b)
/-- What a step of the reading leaves behind. -/
def FormPost (r : Nat) (X : Nat → Prop) (o : Option RS) (w : World) (e : Ending) (w' : World) : Prop :=
  Fix (fun b => ¬ X b) w w' ∧ ((∃ S X', o = some S ∧ e = .returned (.tuple #[]) ∧ Rdr r X' S w' ∧ ∀ b, X' b → X b ∨ w.heap.size ≤ b) ∨ (o = none ∧ e = noForm))
def SeeC (wb : Nat) (w V : World) : Prop := ∀ o, V.cell? ⟨wb, o, none⟩ = w.cell? ⟨wb, o, none⟩
theorem seeC_of {wb : Nat} {w V : World} (h : SeeC wb w V) : ∀ o, V.cell? ⟨wb, o, none⟩ = w.cell? ⟨wb, o, none⟩ := h
theorem seeC_below {wb : Nat} {w V : World} (h : Below w.heap.size w V) (hl : wb < w.heap.size) : SeeC wb w V := fun o => h.cell (p := ⟨wb, o, none⟩) hl
theorem seeC_set {wb r : Nat} {w V : World} (hne : ¬ wb = r) (h : SeeC wb w V) (o' : Nat) (u : Value) : SeeC wb w (V.setCell ⟨r, o', none⟩ u) := fun o => by rw [← h o]; simp [go_sem, hne]
def two (ws : List ByteArray) : Option (ByteArray × ByteArray) := match ws with | [a, b] => some (a, b) | _ => none
def seaForm (S : RS) (ws : List ByteArray) : Option RS :=
  if S.line = 0 ∧ ws.length = 2 then
    (shortOf false (ws.getD 0 default).data.toList).bind fun c => (shortOf false (ws.getD 1 default).data.toList).map fun b => ⟨{ S.sea with cells := c, bands := b }, S.line⟩
  else none
set_option maxHeartbeats 4000000 in
set_option maxRecDepth 20000 in
theorem c186_calls (r : Nat) (X : Nat → Prop) (S : RS) (v : Value) (ws : List ByteArray) (w : World) (hR : Rdr r X S w) (hE : EnvB r w) (hs : Sl strCs 1 w v ws) (hX : ∀ b o n c, v = .slice (some ⟨b, o, none⟩) n c → ¬ X b) (hl : ws.length ≤ 1000000) (hz : ∀ s ∈ ws, s.size ≤ 1000000) (hli : 0 ≤ S.line ∧ S.line ≤ 1000000) :
    Calls Tryz.prog 186 #[.pointer (some ⟨r, 0, none⟩), v] w fun e w' => FormPost r X (seaForm S ws) w e w' := by
  obtain ⟨A, c, rfl, hc, _⟩ := hs.open_
  obtain ⟨vh, vt, h1, h2, h3, h4, h5, h6, h7, h8⟩ := hR
  have c0 := blk_cell h1 0
  have c1 := blk_cell h1 1
  have c4 := blk_cell h1 4
  simp only [List.getElem?_toArray, List.getElem?_cons_zero, List.getElem?_cons_succ] at c0 c1 c4
  have l1 := blk_lt h1
  have H1 := Lib.hid h1
  have H2 := Lib.hid h2
  have H3 := Lib.hid h3
  have H4 := Lib.hid h4
  have H5 := Lib.hid (And.intro h5 (And.intro h6 (And.intro h7 h8)))
  have HE := Lib.hid hE
  have HS := Lib.hid hs
  have HX := Lib.hid hX
  have HZ := Lib.hid hz
  clear h1 h2 h3 h4 h5 h6 h7 h8 hE hs hX hz
  by_cases h0 : S.line = 0 ∧ ws.length = 2
  · obtain ⟨q0, q1⟩ := h0
    obtain ⟨a, b, rfl⟩ : ∃ a b, ws = [a, b] := by
      match ws, q1 with
      | [a, b], _ => exact ⟨a, b, rfl⟩
    have HF : Hid (seaForm S [a, b] = (shortOf false a.data.toList).bind fun c => (shortOf false b.data.toList).map fun b => ⟨{ S.sea with cells := c, bands := b }, S.line⟩) := by
      unfold Hid seaForm; rw [if_pos ⟨q0, rfl⟩]; rfl
    have hl0 : (S.line == 0) = true := by simp [q0]
    obtain ⟨wb, wo, rfl, d0⟩ := HS.out.str 0 a rfl
    obtain ⟨wb', wo', e1, d1⟩ := HS.out.str 1 b rfl
    cases e1
    rw [Nat.add_zero] at d0
    go_enter Tryz.func186, Tryz.ntmps186
    go_wp2_with fail
    refine (need_calls true w).mono ?_
    rintro e w3 ⟨rfl, hw3⟩
    have hw3' := hw3.symm
    subst hw3'
    rw [if_pos rfl]
    clear hw3
    go_wp2_with fail
    have hwr : ¬ wb = r := fun h => HX.out wb wo _ _ rfl (h ▸ H5.out.1)
    have lwb : wb < w.heap.size := World.block_lt_of_cell? _ _ d0
    have FC : ∀ V, Hid (Fix (fun b => b ≠ r) w V) → Hid (Env V) := fun V hV => (HE.out.below ((hV.out.mono (K' := fun b => b < r) fun b _ hb => by omega).to_below (by have := HE.out.1; omega))).env
    have za := HZ.out a (by simp)
    have zb := HZ.out b (by simp)
    refine wp_region_held_drew (S := SeeC wb w) (by kernel_rfl) (fun _ => rfl) (fun hHeld => ?_)
    refine wpAnyH_take (i := 0) (v := .pointer (some ⟨r, 0, none⟩)) rfl (by kernel_rfl) (by kernel_rfl) (by kernel_rfl) (fun _ _ _ h => h) (Or.inl ⟨by rfl, ?_⟩) (by assumption) ?_
    · intro U hSw; have hq := seeC_of hSw; go_simp
    try simp only [Act.put, List.setIfInBounds_toArray, List.set_cons_zero, List.set_cons_succ]
    refine wpAnyH_take (i := 1) (v := .pointer (some ⟨r, 0, none⟩)) rfl (by kernel_rfl) (by kernel_rfl) (by kernel_rfl) (fun _ _ _ h => h) (Or.inl ⟨by rfl, ?_⟩) (by assumption) ?_
    · intro U hSw; have hq := seeC_of hSw; go_simp
    try simp only [Act.put, List.setIfInBounds_toArray, List.set_cons_zero, List.set_cons_succ]
    refine wpAnyH_take (i := 2) (v := .slice (some ⟨wb, wo, none⟩) 2 c) rfl (by kernel_rfl) (by kernel_rfl) (by kernel_rfl) (fun _ _ _ h => h) (Or.inl ⟨by rfl, ?_⟩) (by assumption) ?_
    · intro U hSw; have hq := seeC_of hSw; go_simp
    try simp only [Act.put, List.setIfInBounds_toArray, List.set_cons_zero, List.set_cons_succ]
    refine wpAnyH_take (i := 3) (v := .pointer (some ⟨wb, wo, none⟩)) rfl (by kernel_rfl) (by kernel_rfl) (by kernel_rfl) (fun _ _ _ h => h) (Or.inl ⟨by rfl, ?_⟩) (by assumption) ?_
    · intro U hSw; have hq := seeC_of hSw; go_simp
    try simp only [Act.put, List.setIfInBounds_toArray, List.set_cons_zero, List.set_cons_succ]
    refine wpAnyH_take (i := 4) (v := .string a) rfl (by kernel_rfl) (by kernel_rfl) (by kernel_rfl) (fun _ _ _ h => h) (Or.inl ⟨by rfl, ?_⟩) (by assumption) ?_
    · intro U hSw; have hq := seeC_of hSw; go_simp
    try simp only [Act.put, List.setIfInBounds_toArray, List.set_cons_zero, List.set_cons_succ]
    refine wpAnyH_take (i := 6) (v := .slice (some ⟨wb, wo, none⟩) 2 c) rfl (by kernel_rfl) (by kernel_rfl) (by kernel_rfl) (fun _ _ _ h => h) (Or.inl ⟨by rfl, ?_⟩) (by assumption) ?_
    · intro U hSw; have hq := seeC_of hSw; go_simp
    try simp only [Act.put, List.setIfInBounds_toArray, List.set_cons_zero, List.set_cons_succ]
    refine wpAnyH_take (i := 7) (v := .pointer (some ⟨wb, wo + 1, none⟩)) rfl (by kernel_rfl) (by kernel_rfl) (by kernel_rfl) (fun _ _ _ h => h) (Or.inl ⟨by rfl, ?_⟩) (by assumption) ?_
    · intro U hSw; have hq := seeC_of hSw; go_simp
    try simp only [Act.put, List.setIfInBounds_toArray, List.set_cons_zero, List.set_cons_succ]
    refine wpAnyH_take (i := 8) (v := .string b) rfl (by kernel_rfl) (by kernel_rfl) (by kernel_rfl) (fun _ _ _ h => h) (Or.inl ⟨by rfl, ?_⟩) (by assumption) ?_
    · intro U hSw; have hq := seeC_of hSw; go_simp
    try simp only [Act.put, List.setIfInBounds_toArray, List.set_cons_zero, List.set_cons_succ]
    have hV0 : Hid (Below w.heap.size w w.drew) := (Below.refl _ _).drew
    clear hHeld
    refine wpAnyH_ready (rs := [5]) (by kernel_rfl) (by simp) ?_
    refine AllReadyH.cons rfl (fun K hK => ?_) AllReadyH.nil
    go_simp
    refine (short_calls a false w.drew (FC _ (Fix.of_below hV0.out)).out za).mono ?_
    rintro e V1 ⟨rfl, hb1⟩
    have hV1 := Lib.hid (bl_step hV0.out hb1)
    clear hb1
    cases ha : shortOf false a.data.toList with
    | none =>
      have HN : Hid (seaForm S [a, b] = none) := by rw [HF.out, ha]; rfl
      unfold endOf noForm
      dsimp only
      exact ⟨rfl, Fix.of_below hV1.out, .inr ⟨HN.out, rfl⟩⟩
    | some na =>
      simp only [endOf]
      refine hK.out _ _ (show SeeC wb w V1 from seeC_below hV1.out lwb) (fun hHeld => ?_)
      clear hK K hHeld
      (try simp only [Act.put, List.setIfInBounds_toArray, List.set_cons_zero, List.set_cons_succ])
      refine wpAnyH_ready (rs := [9]) (by kernel_rfl) (by simp) ?_
      refine AllReadyH.cons rfl (fun K hK => ?_) AllReadyH.nil
      go_simp
      refine (short_calls b false V1 (FC _ (Fix.of_below hV1.out)).out zb).mono ?_
      rintro e V2 ⟨rfl, hb2⟩
      have hV2 := Lib.hid (bl_step hV1.out hb2)
      clear hb2
      cases hb : shortOf false b.data.toList with
      | none =>
        have HN : Hid (seaForm S [a, b] = none) := by rw [HF.out, ha]; simp only [Option.bind_some]; rw [hb]; rfl
        unfold endOf noForm
        dsimp only
        exact ⟨rfl, Fix.of_below hV2.out, .inr ⟨HN.out, rfl⟩⟩
      | some nb =>
        have HN : Hid (seaForm S [a, b] = some ⟨{ S.sea with cells := na, bands := nb }, S.line⟩) := by rw [HF.out, ha]; simp only [Option.bind_some]; rw [hb]; rfl
        simp only [endOf]
        refine hK.out _ _ (show SeeC wb w V2 from seeC_below hV2.out lwb) (fun hHeld => ?_)
        clear hK K hHeld
        (try simp only [Act.put, List.setIfInBounds_toArray, List.set_cons_zero, List.set_cons_succ])
        have g1 := blk_below H1.out hV2.out
        have e0 := blk_cell g1 0
        have e1 := blk_cell g1 1
        simp only [List.getElem?_toArray, List.getElem?_cons_zero, List.getElem?_cons_succ] at e0 e1
        have f0 := blk_frozen g1 0
        have f1 := blk_frozen g1 1
        have l2 := blk_lt g1
        have G1 := Lib.hid g1
        clear g1
        refine wpAnyH_ready (rs := [10]) (by kernel_rfl) (by simp) ?_
        refine AllReadyH.cons rfl (fun K hK => ?_) AllReadyH.nil
        go_simp
        refine hK.out _ _ (show SeeC wb w V2 from seeC_below hV2.out lwb) (fun hHeld => ?_)
        clear hK K hHeld
        (try simp only [Act.put, List.setIfInBounds_toArray, List.set_cons_zero, List.set_cons_succ])
        refine wpAnyH_ready (rs := [11]) (by kernel_rfl) (by simp) ?_
        refine AllReadyH.cons rfl (fun K hK => ?_) AllReadyH.nil
        go_simp
        refine hK.out _ _ (show SeeC wb w V2 from seeC_below hV2.out lwb) (fun hHeld => ?_)
        clear hK K hHeld
        (try simp only [Act.put, List.setIfInBounds_toArray, List.set_cons_zero, List.set_cons_succ])
        refine wpAnyH_ready (rs := [12]) (by kernel_rfl) (by simp) ?_
        refine AllReadyH.cons rfl (fun K hK => ?_) AllReadyH.nil
        go_simp
        refine hK.out _ _ (show SeeC wb w V2 from seeC_below hV2.out lwb) (fun hHeld => ?_)
        clear hK K hHeld
        (try simp only [Act.put, List.setIfInBounds_toArray, List.set_cons_zero, List.set_cons_succ])
        refine wpAnyH_ready (rs := [13]) (by kernel_rfl) (by simp) ?_
        refine AllReadyH.cons rfl (fun K hK => ?_) AllReadyH.nil
        go_simp
        refine hK.out _ _ (seeC_set hwr (seeC_below hV2.out lwb) _ _) (fun hHeld => ?_)
        clear hK K hHeld
        (try simp only [Act.put, List.setIfInBounds_toArray, List.set_cons_zero, List.set_cons_succ])
        refine wpAnyH_ready (rs := [14]) (by kernel_rfl) (by simp) ?_
        refine AllReadyH.cons rfl (fun K hK => ?_) AllReadyH.nil
        go_simp
        refine hK.out _ _ (seeC_set hwr (seeC_below hV2.out lwb) _ _) (fun hHeld => ?_)
        clear hK K hHeld
        (try simp only [Act.put, List.setIfInBounds_toArray, List.set_cons_zero, List.set_cons_succ])
        refine wpAnyH_ready (rs := [15]) (by kernel_rfl) (by simp) ?_
        refine AllReadyH.cons rfl (fun K hK => ?_) AllReadyH.nil
        go_simp
        refine hK.out _ _ (seeC_set hwr (seeC_below hV2.out lwb) _ _) (fun hHeld => ?_)
        clear hK K hHeld
        (try simp only [Act.put, List.setIfInBounds_toArray, List.set_cons_zero, List.set_cons_succ])
        refine wpAnyH_ready (rs := [16]) (by kernel_rfl) (by simp) ?_
        refine AllReadyH.cons rfl (fun K hK => ?_) AllReadyH.nil
        go_simp
        refine hK.out _ _ (seeC_set hwr (seeC_below hV2.out lwb) _ _) (fun hHeld => ?_)
        clear hK K hHeld
        (try simp only [Act.put, List.setIfInBounds_toArray, List.set_cons_zero, List.set_cons_succ])
        refine wpAnyH_ready (rs := [17]) (by kernel_rfl) (by simp) ?_
        refine AllReadyH.cons rfl (fun K hK => ?_) AllReadyH.nil
        go_simp
        refine hK.out _ _ (seeC_set hwr (seeC_set hwr (seeC_below hV2.out lwb) _ _) _ _) (fun hHeld => ?_)
        clear hK K hHeld
        (try simp only [Act.put, List.setIfInBounds_toArray, List.set_cons_zero, List.set_cons_succ])
        refine wpAnyH_done (by kernel_rfl) ?_ _
        go_wp2_with fail
        obtain ⟨h5, h6, h7, h8⟩ := H5.out
        refine bodyPost_end (v := .tuple #[]) (by simp [results, Tryz.results186, go_sem]) rfl ⟨((Fix.of_below hV2.out).setCell (fun _ h => h h5) _).setCell (fun _ h => h h5) _, .inl ⟨_, X, HN.out, rfl, ⟨vh, vt, ?_, ?_, ?_, H4.out, h5, h6, h7, h8⟩, fun b h => .inl h⟩⟩
        · have := blk_set (blk_set G1.out 0 (iv na)) 1 (iv nb)
          simpa using this
        · exact ((H2.out.below hV2.out).set (fun h => absurd (H2.out.lt _ h).1 (Nat.not_succ_le_self r)) _).set (fun h => absurd (H2.out.lt _ h).1 (Nat.not_succ_le_self r)) _
        · exact ((H3.out.below hV2.out).set (fun h => absurd (H3.out.lt _ h).1 (Nat.not_succ_le_self r)) _).set (fun h => absurd (H3.out.lt _ h).1 (Nat.not_succ_le_self r)) _
  · have HF : Hid (seaForm S ws = none) := if_neg h0
    have hb0 : (if S.line = 0 then decide (ws.length = 2) else false) = false := by
      by_cases q : S.line = 0
      · rw [if_pos q]; simpa using fun h => h0 ⟨q, h⟩
      · rw [if_neg q]
    by_cases q : S.line = 0
    · have hl0 : (S.line == 0) = true := by simp [q]
      have hl1 : ((ws.length : Int) == 2) = false := by
        have : ¬ ws.length = 2 := fun h => h0 ⟨q, h⟩
        simp; omega
      clear hb0 h0 q
      go_enter Tryz.func186, Tryz.ntmps186
      go_wp2_with fail
      refine (need_calls false w).mono ?_
      rintro e w3 ⟨rfl, hw3⟩
      have hw3' := hw3.symm
      subst hw3'
      rw [if_neg (by decide)]
      unfold noForm
      go_wp2_with fail
      exact ⟨rfl, Fix.refl _ _, .inr ⟨HF.out, rfl⟩⟩
    · have hl0 : (S.line == 0) = false := by simp [q]
      clear hb0 h0 q
      go_enter Tryz.func186, Tryz.ntmps186
      go_wp2_with fail
      refine (need_calls false w).mono ?_
      rintro e w3 ⟨rfl, hw3⟩
      have hw3' := hw3.symm
      subst hw3'
      rw [if_neg (by decide)]
      unfold noForm
      go_wp2_with fail
      exact ⟨rfl, Fix.refl _ _, .inr ⟨HF.out, rfl⟩⟩
end Go.Proofs.YtjekioabkmijbaaGreatDoor
/- The form of heights. -/
set_option linter.unusedVariables false
set_option linter.unusedSimpArgs false
namespace Go.Proofs.YtjekioabkmijbaaGreatDoor
open Go.RowKit
def shorts (ws : List ByteArray) : Option (List Int) := ws.mapM fun s => shortOf false s.data.toList
def heightsForm (S : RS) (ws : List ByteArray) : Option RS :=
  if S.line = 1 ∧ (ws.length : Int) = S.sea.cells then (shorts ws).map fun ys => ⟨{ S.sea with hts := ys }, S.line⟩ else none
set_option maxHeartbeats 4000000 in
set_option maxRecDepth 20000 in
theorem c188_calls (r : Nat) (X : Nat → Prop) (S : RS) (v : Value) (ws : List ByteArray) (w : World) (hR : Rdr r X S w) (hE : EnvB r w) (hs : Sl strCs 1 w v ws) (hl : ws.length ≤ 1000000) (hz : ∀ s ∈ ws, s.size ≤ 1000000) (hli : 0 ≤ S.line ∧ S.line ≤ 1000000) :
    Calls Tryz.prog 188 #[.pointer (some ⟨r, 0, none⟩), v] w fun e w' => FormPost r X (heightsForm S ws) w e w' := by
  have hs0 := hs
  obtain ⟨A, c, rfl, hc, _⟩ := hs.open_
  obtain ⟨vh, vt, h1, h2, h3, h4, h5, h6, h7, h8⟩ := hR
  have c0 := blk_cell h1 0
  have c4 := blk_cell h1 4
  simp only [List.getElem?_toArray, List.getElem?_cons_zero, List.getElem?_cons_succ] at c0 c4
  have l1 := blk_lt h1
  have H1 := Lib.hid h1
  have H2 := Lib.hid h2
  have H3 := Lib.hid h3
  have H4 := Lib.hid h4
  have H5 := Lib.hid (And.intro h5 (And.intro h6 (And.intro h7 h8)))
  have HE := Lib.hid hE
  have HS := Lib.hid hs
  have HZ := Lib.hid hz
  have HM := Lib.hid (mapped112_calls 189 (fun s => shortOf false s.data.toList) ws _ w (enters_of Tryz.func189 (by kernel_rfl) rfl) hs0 hl (fun s hs W hW => c189_calls s W (hE.below (hW.mono hE.1)).env (hz s hs)))
  clear h1 h2 h3 h4 h5 h6 h7 h8 hE hs hs0 hz
  by_cases h0 : S.line = 1 ∧ (ws.length : Int) = S.sea.cells
  · have HF : Hid (heightsForm S ws = (shorts ws).map fun ys => ⟨{ S.sea with hts := ys }, S.line⟩) := if_pos h0
    obtain ⟨q0, q1⟩ := h0
    have hl0 : (S.line == 1) = true := by simp [q0]
    have hl1 : ((ws.length : Int) == S.sea.cells) = true := by simp [q1]
    clear q0 q1
    go_enter Tryz.func188, Tryz.ntmps188
    go_wp2_with fail
    refine (need_calls true w).mono ?_
    rintro e w3 ⟨rfl, hw3⟩
    have hw3' := hw3.symm
    subst hw3'
    rw [if_pos rfl]
    clear hw3
    go_wp2_with fail
    refine HM.out.mono ?_
    rintro e w1 ⟨hb1, ⟨ys, v', hy, rfl, ho⟩ | ⟨hy, rfl⟩⟩
    · have HB1 := Lib.hid hb1
      have HO := Lib.hid ho
      have HF2 : Hid (heightsForm S ws = some ⟨{ S.sea with hts := ys }, S.line⟩) := by rw [HF.out]; unfold shorts; rw [hy]; rfl
      have g1 := blk_below H1.out hb1
      have e2 := blk_cell g1 2
      simp only [List.getElem?_toArray, List.getElem?_cons_zero, List.getElem?_cons_succ] at e2
      have f2 := blk_frozen g1 2
      have l2 := blk_lt g1
      have G1 := Lib.hid g1
      obtain ⟨B, c', rfl⟩ := ho.slice
      clear hb1 ho hy g1
      go_wp2_with fail
      obtain ⟨h5, h6, h7, h8⟩ := H5.out
      refine bodyPost_end (v := .tuple #[]) (by simp [results, Tryz.results188, go_sem]) rfl ⟨(Fix.of_below HB1.out).setCell (fun _ h => h h5) _, .inl ⟨_, fun b => X b ∨ (Value.slice B ys.length c').ownBlock = some b, HF2.out, rfl, ⟨_, vt, ?_, ?_, ?_, ?_, .inl h5, fun b h => .inr h, fun b h => .inl (h7 b h), ?_⟩, ?_⟩⟩
      · have := blk_set G1.out 2 (.slice B ys.length c')
        simpa using this
      · exact (HO.out.mono (by omega)).set (fun h => by have h1 : w.heap.size ≤ r := (HO.out.lt _ h).1; omega) _
      · exact (H3.out.below HB1.out).set (fun h => absurd (H3.out.lt _ h).1 (Nat.not_succ_le_self r)) _
      · intro b hb hb'
        have h1 := (HO.out.lt _ hb).1
        have h2 := (H3.out.lt _ hb').2
        omega
      · rintro b (h | h)
        · exact h8 b h
        · have h1 := (HO.out.lt _ h).1
          omega
      · rintro b (h | h)
        · exact .inl h
        · exact .inr (HO.out.lt _ h).1
    · have HB1 := Lib.hid hb1
      have HF2 : Hid (heightsForm S ws = none) := by rw [HF.out]; unfold shorts; rw [hy]; rfl
      clear hb1 hy
      unfold noForm
      go_wp2_with fail
      exact ⟨rfl, Fix.of_below HB1.out, .inr ⟨HF2.out, rfl⟩⟩
  · have HF : Hid (heightsForm S ws = none) := if_neg h0
    by_cases q : S.line = 1
    · have hl0 : (S.line == 1) = true := by simp [q]
      have hl1 : ((ws.length : Int) == S.sea.cells) = false := by
        have : ¬ (ws.length : Int) = S.sea.cells := fun h => h0 ⟨q, h⟩
        simpa using this
      clear h0 q
      go_enter Tryz.func188, Tryz.ntmps188
      go_wp2_with fail
      refine (need_calls false w).mono ?_
      rintro e w3 ⟨rfl, hw3⟩
      have hw3' := hw3.symm
      subst hw3'
      rw [if_neg (by decide)]
      unfold noForm
      go_wp2_with fail
      exact ⟨rfl, Fix.refl _ _, .inr ⟨HF.out, rfl⟩⟩
    · have hl0 : (S.line == 1) = false := by simp [q]
      clear h0 q
      go_enter Tryz.func188, Tryz.ntmps188
      go_wp2_with fail
      refine (need_calls false w).mono ?_
      rintro e w3 ⟨rfl, hw3⟩
      have hw3' := hw3.symm
      subst hw3'
      rw [if_neg (by decide)]
      unfold noForm
      go_wp2_with fail
      exact ⟨rfl, Fix.refl _ _, .inr ⟨HF.out, rfl⟩⟩
end Go.Proofs.YtjekioabkmijbaaGreatDoor
/- An append at the operation of a drawn region. -/
set_option linter.unusedVariables false
set_option linter.unusedSimpArgs false
namespace Go.Proofs.YtjekioabkmijbaaGreatDoor
open Go.RowKit
theorem wpAnyH_na {P : Program} {md : Region.Mode} {ops : Array Oper} {Q : Exit → Act → World → Prop} {S : World → Prop} {n : Nat} {l : Array Bool} {a : Act} {w : World} (h : ∀ W, W = w → wpAnyH P md ops Q S n l a W) : wpAnyH P md ops Q S n l a w := h w rfl
/-- An append, at the operation of a drawn region. -/
theorem step_push {α : Type} {cs : α → List Value} {k e base : Nat} {P : Program} {ops : Array Oper} {o : Oper} {a : Act} {w : World} {K : Act → World → Prop} {Q : Exit → Act → World → Prop} {E : Prop}
    (hg : o.guard = none) (s x : Operand) (t : TypeId) (ho : o.op = Op.call { callee := Callee.builtin Builtin.append, args := #[s, x], argTypes := #[t, t] }) (z : Value) (bytes : Nat) (ht : P.underlying t = some (.slice e))
    (hinfo : (P.info? e).map (fun i => (i.zero, i.size, i.bytes)) = some (some z, k, bytes)) (hzs : z.cells.size = k) (hk0 : 0 < k)
    (v : Value) (xs : List α) (y : α) (hs : a.eval s = v) (hown : Own cs k e base w v xs) (g m c : Nat) (hx : a.eval x = .slice (some ⟨g, 0, none⟩) m c) (hm : m = 1)
    (f : Nat × Nat) (e' : TypeId) (hblk : w.heap[g]? = some (.cells (cs y).toArray e' f)) (hy : (cs y).length = k) (h1 : ∀ u ∈ cs y, u.oneCell' = true)
    (hlen : (xs.length + 1) * bytes ≤ 140737488355328) (hb0 : 0 < bytes) (hbase : base ≤ w.heap.size)
    (hK : ∀ v' w', Own cs k e base w' v' (xs ++ [y]) → w.grownBy w' v.ownBlock → NewRow w v v' → K (a.put o.dst v') w') :
    if Region.wanted o (yielded ops a.tmps) = true then Oper.wp P o a w K Q else E := by
  subst hm
  have hw : Region.wanted o (yielded ops a.tmps) = true := by simp [Region.wanted, hg]
  rw [if_pos hw]
  obtain ⟨i0, hi, hz0, hz1, hz2⟩ := info_parts hinfo
  have hl1 : xs.length + 1 ≤ maxLen := by
    have : xs.length + 1 ≤ (xs.length + 1) * bytes := Nat.le_mul_of_pos_right _ hb0
    unfold maxLen; omega
  obtain ⟨v', w', hr, h2, h3, h4⟩ := run_push (P := P) w base t o.type e i0 z k bytes ht hi hz0 hz1 hz2 hzs hk0 v xs.length (xs.flatMap cs) hown ⟨g, 0, none⟩ 1 c (cs y) (by rw [hy, Nat.one_mul]) (fun j u hu => by
    rw [show (⟨g, 0, none⟩ : Addr).add j = ⟨g, j, none⟩ from by unfold Addr.add; split <;> simp_all, blk_cell hblk]
    simpa using hu) h1 hl1 hlen hbase
  unfold Oper.wp
  simp [execOp, ho, resolve, invoke, builtin, hs, hx, hr, Result.andThen]
  exact hK _ _ (by unfold Own; rw [List.length_append, List.flatMap_append]; simpa using h2) h3 h4
end Go.Proofs.YtjekioabkmijbaaGreatDoor
