/- The form of tide. -/
import Derived.Test.YtjekioabkmijbaaGreatDoorZ30
set_option linter.unusedVariables false
set_option linter.unusedSimpArgs false
namespace Go.Proofs.YtjekioabkmijbaaGreatDoor
open Go.RowKit
theorem seeC_grown {wb : Nat} {w V V' : World} {row : Option Nat} (h : SeeC wb w V) (hg : V.grownBy V' row) (hne : some wb ≠ row) (hl : wb < V.heap.size) : SeeC wb w V' := fun o => by
  rw [← h o]
  unfold World.cell?
  rw [hg.block wb hl hne]
def tideForm (S : RS) (ws : List ByteArray) : Option RS :=
  if 2 ≤ S.line ∧ ws.length = 2 then
    (shortOf true (ws.getD 0 default).data.toList).bind fun a => (shortOf false (ws.getD 1 default).data.toList).map fun h => ⟨{ S.sea with tds := S.sea.tds ++ [⟨a, h⟩] }, S.line⟩
  else none
theorem tide_post {r : Nat} {X : Nat → Prop} {S : RS} {ws : List ByteArray} {vh vt : Value} {w V W4 : World} {A' : Option Addr} {n c' : Nat} {y : DTide}
    (H1 : w.heap[r]? = some (.cells #[iv S.sea.cells, iv S.sea.bands, vh, vt, iv S.line] 141 (0, 0))) (H2 : Own intCs 1 3 (r + 1) w vh S.sea.hts) (H3 : Own DTide.cs 2 138 (r + 1) w vt S.sea.tds) (H4 : ∀ b, vh.ownBlock = some b → vt.ownBlock = some b → False)
    (H5 : X r ∧ (∀ b, vh.ownBlock = some b → X b) ∧ (∀ b, vt.ownBlock = some b → X b) ∧ (∀ b, X b → r ≤ b)) (hb : Below w.heap.size w V) (hown : Own DTide.cs 2 138 (r + 1) W4 (.slice A' n c') (S.sea.tds ++ [y])) (hg : V.grownBy W4 vt.ownBlock) (hn : NewRow V vt (.slice A' n c')) (hN : tideForm S ws = some ⟨{ S.sea with tds := S.sea.tds ++ [y] }, S.line⟩) :
    FormPost r X (tideForm S ws) w (.returned (.tuple #[])) (W4.setCell ⟨r, 3, none⟩ (.slice A' n c')) := by
  obtain ⟨h5, h6, h7, h8⟩ := H5
  have hsz := hb.size
  have lr := blk_lt H1
  have g1 := blk_grown (blk_below H1 hb) hg (fun h => absurd (H3.lt _ h.symm).1 (Nat.not_succ_le_self r))
  refine ⟨((Fix.of_below hb).grown hg (fun b hbk _ h => h (h7 b hbk))).setCell (fun _ h => h h5) _, .inl ⟨_, fun b => X b ∨ (Value.slice A' n c').ownBlock = some b, hN, rfl, ⟨vh, _, ?_, ?_, ?_, ?_, .inl h5, fun b h => .inl (h6 b h), fun b h => .inr h, ?_⟩, ?_⟩⟩
  · have := blk_set g1 3 (.slice A' n c')
    simpa using this
  · refine Own.set (Own.kept (H2.below hb) hg ?_) (fun h => absurd (H2.lt _ h).1 (Nat.not_succ_le_self r)) _
    cases hvh : vh.ownBlock with
    | none => exact .inl rfl
    | some b => exact .inr fun h => H4 b hvh h.symm
  · exact hown.set (fun h => absurd (hown.lt _ h).1 (Nat.not_succ_le_self r)) _
  · intro b hbk hbk'
    rcases hn with h | h
    · rw [h] at hbk'
      exact H4 b hbk hbk'
    · have h1 := h b hbk'
      have h2 := (H2.lt _ hbk).2
      omega
  · rintro b (h | h)
    · exact h8 b h
    · have h1 := (hown.lt _ h).1
      omega
  · rintro b (h | h)
    · exact .inl h
    · rcases hn with h' | h'
      · rw [h'] at h
        exact .inl (h7 b h)
      · have h1 := h' b h
        exact .inr (by omega)
set_option maxHeartbeats 20000000 in
set_option maxRecDepth 20000 in
theorem c190_calls (r : Nat) (X : Nat → Prop) (S : RS) (v : Value) (ws : List ByteArray) (w : World) (hR : Rdr r X S w) (hE : EnvB r w) (hs : Sl strCs 1 w v ws) (hX : ∀ b o n c, v = .slice (some ⟨b, o, none⟩) n c → ¬ X b) (hl : ws.length ≤ 1000000) (hz : ∀ s ∈ ws, s.size ≤ 1000000) (hli : 0 ≤ S.line ∧ S.line ≤ 1000000) (htl : S.sea.tds.length ≤ 1000000) :
    Calls Tryz.prog 190 #[.pointer (some ⟨r, 0, none⟩), v] w fun e w' => FormPost r X (tideForm S ws) w e w' := by
  obtain ⟨A, c, rfl, hc, _⟩ := hs.open_
  obtain ⟨vh, vt, h1, h2, h3, h4, h5, h6, h7, h8⟩ := hR
  have c3 := blk_cell h1 3
  have c4 := blk_cell h1 4
  simp only [List.getElem?_toArray, List.getElem?_cons_zero, List.getElem?_cons_succ] at c3 c4
  have l1 := blk_lt h1
  have H1 := Lib.hid h1
  have H2 := Lib.hid h2
  have H3 := Lib.hid h3
  have H4 := Lib.hid h4
  have H5 := Lib.hid (And.intro h5 (And.intro h6 (And.intro h7 h8)))
  have HE := Lib.hid hE
  have HS := Lib.hid hs
  have HX := Lib.hid hX
  have HZ := Lib.hid hz
  clear h1 h2 h3 h4 h5 h6 h7 h8 hE hs hX hz
  by_cases h0 : 2 ≤ S.line ∧ ws.length = 2
  · obtain ⟨q0, q1⟩ := h0
    obtain ⟨a, b, rfl⟩ : ∃ a b, ws = [a, b] := by
      match ws, q1 with
      | [a, b], _ => exact ⟨a, b, rfl⟩
    have HF : Hid (tideForm S [a, b] = (shortOf true a.data.toList).bind fun c => (shortOf false b.data.toList).map fun h => ⟨{ S.sea with tds := S.sea.tds ++ [⟨c, h⟩] }, S.line⟩) := by
      unfold Hid tideForm; rw [if_pos ⟨q0, rfl⟩]; rfl
    obtain ⟨wb, wo, rfl, d0⟩ := HS.out.str 0 a rfl
    obtain ⟨wb', wo', e1, d1⟩ := HS.out.str 1 b rfl
    cases e1
    rw [Nat.add_zero] at d0
    go_enter Tryz.func190, Tryz.ntmps190
    go_wp2_with fail
    refine (need_calls true w).mono ?_
    rintro e w3 ⟨rfl, hw3⟩
    have hw3' := hw3.symm
    subst hw3'
    rw [if_pos rfl]
    clear hw3
    go_wp2_with fail
    have hwr : ¬ wb = r := fun h => HX.out wb wo _ _ rfl (h ▸ H5.out.1)
    have lwb : wb < w.heap.size := World.block_lt_of_cell? _ _ d0
    have hwt : some wb ≠ vt.ownBlock := fun h => HX.out wb wo _ _ rfl (H5.out.2.2.1 wb h.symm)
    have FC : ∀ V, Hid (Fix (fun b => b ≠ r) w V) → Hid (Env V) := fun V hV => (HE.out.below ((hV.out.mono (K' := fun b => b < r) fun b _ hb => by omega).to_below (by have := HE.out.1; omega))).env
    have za := HZ.out a (by simp)
    have zb := HZ.out b (by simp)
    refine wp_region_held_drew (S := SeeC wb w) (by kernel_rfl) (fun _ => rfl) (fun hHeld => ?_)
    refine wpAnyH_take (i := 0) (v := .pointer (some ⟨r, 0, none⟩)) rfl (by kernel_rfl) (by kernel_rfl) (by kernel_rfl) (fun _ _ _ h => h) (Or.inl ⟨by rfl, ?_⟩) (by assumption) ?_
    · intro U hSw; have hq := seeC_of hSw; go_simp
    try simp only [Act.put, List.setIfInBounds_toArray, List.set_cons_zero, List.set_cons_succ]
    refine wpAnyH_take (i := 1) (v := .pointer (some ⟨r, 0, none⟩)) rfl (by kernel_rfl) (by kernel_rfl) (by kernel_rfl) (fun _ _ _ h => h) (Or.inl ⟨by rfl, ?_⟩) (by assumption) ?_
    · intro U hSw; have hq := seeC_of hSw; go_simp
    try simp only [Act.put, List.setIfInBounds_toArray, List.set_cons_zero, List.set_cons_succ]
    refine wpAnyH_take (i := 2) (v := .pointer (some ⟨r, 0, none⟩)) rfl (by kernel_rfl) (by kernel_rfl) (by kernel_rfl) (fun _ _ _ h => h) (Or.inl ⟨by rfl, ?_⟩) (by assumption) ?_
    · intro U hSw; have hq := seeC_of hSw; go_simp
    try simp only [Act.put, List.setIfInBounds_toArray, List.set_cons_zero, List.set_cons_succ]
    refine wpAnyH_take (i := 3) (v := .pointer (some ⟨r, 0, none⟩)) rfl (by kernel_rfl) (by kernel_rfl) (by kernel_rfl) (fun _ _ _ h => h) (Or.inl ⟨by rfl, ?_⟩) (by assumption) ?_
    · intro U hSw; have hq := seeC_of hSw; go_simp
    try simp only [Act.put, List.setIfInBounds_toArray, List.set_cons_zero, List.set_cons_succ]
    refine wpAnyH_take (i := 4) (v := .pointer (some ⟨r, 3, none⟩)) rfl (by kernel_rfl) (by kernel_rfl) (by kernel_rfl) (fun _ _ _ h => h) (Or.inl ⟨by rfl, ?_⟩) (by assumption) ?_
    · intro U hSw; have hq := seeC_of hSw; go_simp
    try simp only [Act.put, List.setIfInBounds_toArray, List.set_cons_zero, List.set_cons_succ]
    refine wpAnyH_take (i := 6) (v := .slice (some ⟨wb, wo, none⟩) 2 c) rfl (by kernel_rfl) (by kernel_rfl) (by kernel_rfl) (fun _ _ _ h => h) (Or.inl ⟨by rfl, ?_⟩) (by assumption) ?_
    · intro U hSw; have hq := seeC_of hSw; go_simp
    try simp only [Act.put, List.setIfInBounds_toArray, List.set_cons_zero, List.set_cons_succ]
    refine wpAnyH_take (i := 7) (v := .pointer (some ⟨wb, wo, none⟩)) rfl (by kernel_rfl) (by kernel_rfl) (by kernel_rfl) (fun _ _ _ h => h) (Or.inl ⟨by rfl, ?_⟩) (by assumption) ?_
    · intro U hSw; have hq := seeC_of hSw; go_simp
    try simp only [Act.put, List.setIfInBounds_toArray, List.set_cons_zero, List.set_cons_succ]
    refine wpAnyH_take (i := 8) (v := .string a) rfl (by kernel_rfl) (by kernel_rfl) (by kernel_rfl) (fun _ _ _ h => h) (Or.inl ⟨by rfl, ?_⟩) (by assumption) ?_
    · intro U hSw; have hq := seeC_of hSw; go_simp
    try simp only [Act.put, List.setIfInBounds_toArray, List.set_cons_zero, List.set_cons_succ]
    refine wpAnyH_take (i := 10) (v := .slice (some ⟨wb, wo, none⟩) 2 c) rfl (by kernel_rfl) (by kernel_rfl) (by kernel_rfl) (fun _ _ _ h => h) (Or.inl ⟨by rfl, ?_⟩) (by assumption) ?_
    · intro U hSw; have hq := seeC_of hSw; go_simp
    try simp only [Act.put, List.setIfInBounds_toArray, List.set_cons_zero, List.set_cons_succ]
    refine wpAnyH_take (i := 11) (v := .pointer (some ⟨wb, wo + 1, none⟩)) rfl (by kernel_rfl) (by kernel_rfl) (by kernel_rfl) (fun _ _ _ h => h) (Or.inl ⟨by rfl, ?_⟩) (by assumption) ?_
    · intro U hSw; have hq := seeC_of hSw; go_simp
    try simp only [Act.put, List.setIfInBounds_toArray, List.set_cons_zero, List.set_cons_succ]
    refine wpAnyH_take (i := 12) (v := .string b) rfl (by kernel_rfl) (by kernel_rfl) (by kernel_rfl) (fun _ _ _ h => h) (Or.inl ⟨by rfl, ?_⟩) (by assumption) ?_
    · intro U hSw; have hq := seeC_of hSw; go_simp
    try simp only [Act.put, List.setIfInBounds_toArray, List.set_cons_zero, List.set_cons_succ]
    have hV0 : Hid (Below w.heap.size w w.drew) := (Below.refl _ _).drew
    clear hHeld
    refine wpAnyH_ready (rs := [5, 9]) (by kernel_rfl) (by simp) ?_
    refine AllReadyH.cons rfl (fun K hK => ?_) (AllReadyH.cons rfl (fun K hK => ?_) (AllReadyH.nil))
    · have gq1 := blk_cell (blk_below H1.out hV0.out) 3
      simp only [List.getElem?_toArray, List.getElem?_cons_zero, List.getElem?_cons_succ] at gq1
      go_simp
      refine hK.out _ _ (show SeeC wb w _ from seeC_below hV0.out lwb) (fun hHeld => ?_)
      clear hK K hHeld
      (try simp only [Act.put, List.setIfInBounds_toArray, List.set_cons_zero, List.set_cons_succ])
      clear gq1
      refine wpAnyH_ready (rs := [9]) (by kernel_rfl) (by simp) ?_
      refine AllReadyH.cons rfl (fun K hK => ?_) (AllReadyH.nil)
      · go_simp
        refine (short_calls a true w.drew (FC _ (Fix.of_below hV0.out)).out za).mono ?_
        rintro e V2 ⟨rfl, hbb⟩
        have hV2 := Lib.hid (bl_step hV0.out hbb)
        clear hbb
        cases ha : shortOf true a.data.toList with
        | none =>
          have HN : Hid (tideForm S [a, b] = none) := by rw [HF.out, ha]; rfl
          unfold endOf noForm
          dsimp only
          exact ⟨rfl, Fix.of_below hV2.out, .inr ⟨HN.out, rfl⟩⟩
        | some na =>
          simp only [endOf]
          refine hK.out _ _ (show SeeC wb w _ from seeC_below hV2.out lwb) (fun hHeld => ?_)
          clear hK K hHeld
          (try simp only [Act.put, List.setIfInBounds_toArray, List.set_cons_zero, List.set_cons_succ])
          refine wpAnyH_ready (rs := [13]) (by kernel_rfl) (by simp) ?_
          refine AllReadyH.cons rfl (fun K hK => ?_) (AllReadyH.nil)
          · go_simp
            refine (short_calls b false V2 (FC _ (Fix.of_below hV2.out)).out zb).mono ?_
            rintro e V3 ⟨rfl, hbb⟩
            have hV3 := Lib.hid (bl_step hV2.out hbb)
            clear hbb
            cases hb : shortOf false b.data.toList with
            | none =>
              have HN : Hid (tideForm S [a, b] = none) := by rw [HF.out, ha]; simp only [Option.bind_some]; rw [hb]; rfl
              unfold endOf noForm
              dsimp only
              exact ⟨rfl, Fix.of_below hV3.out, .inr ⟨HN.out, rfl⟩⟩
            | some nb =>
              simp only [endOf]
              refine hK.out _ _ (show SeeC wb w _ from seeC_below hV3.out lwb) (fun hHeld => ?_)
              clear hK K hHeld
              (try simp only [Act.put, List.setIfInBounds_toArray, List.set_cons_zero, List.set_cons_succ])
              have hHeld : SeeC wb w V3 := seeC_below hV3.out lwb
              refine wpAnyH_take (i := 14) (v := .agg #[iv na, iv nb]) rfl (by kernel_rfl) (by kernel_rfl) (by kernel_rfl) (fun _ _ _ h => h) (Or.inl ⟨by rfl, ?_⟩) (by assumption) ?_
              · intro U hSw; have hq := seeC_of hSw; go_simp
              try simp only [Act.put, List.setIfInBounds_toArray, List.set_cons_zero, List.set_cons_succ]
              clear hHeld
              refine wpAnyH_ready (rs := [15]) (by kernel_rfl) (by simp) ?_
              refine AllReadyH.cons rfl (fun K hK => ?_) (AllReadyH.nil)
              · go_simp
                refine hK.out _ _ (show SeeC wb w _ from seeC_below (bl_alloc hV3.out _) lwb) (fun hHeld => ?_)
                clear hK K hHeld
                (try simp only [Act.put, List.setIfInBounds_toArray, List.set_cons_zero, List.set_cons_succ])
                refine wpAnyH_na (fun V4 hW => ?_)
                have hV4 : Hid (Below w.heap.size w V4) := by rw [hW]; exact bl_alloc hV3.out _
                have gA4 : Hid (V4.heap[V3.heap.size]? = some (.cells #[iv na, iv nb] 138 (0, 0))) := by rw [hW]; exact blk_new _ _
                clear hW
                refine wpAnyH_ready (rs := [16]) (by kernel_rfl) (by simp) ?_
                refine AllReadyH.cons rfl (fun K hK => ?_) (AllReadyH.nil)
                refine step_push (cs := DTide.cs) (base := r + 1) rfl _ _ _ rfl (.agg #[iv 0, iv 0]) 16 Tryz.underlying23 info138 rfl (by decide) vt S.sea.tds ⟨na, nb⟩ rfl (H3.out.below hV4.out) V3.heap.size 1 1 rfl rfl (0, 0) 138 gA4.out rfl (by intro u hu; simp [DTide.cs] at hu; rcases hu with rfl | rfl <;> rfl) (by omega) (by decide) (by have := hV4.out.size; omega) ?_
                intro v' W4 hown hgrow hnew
                obtain ⟨A', c', rfl⟩ := hown.slice
                have hls : wb < V4.heap.size := Nat.lt_of_lt_of_le lwb hV4.out.size
                refine hK.out _ _ (show SeeC wb w W4 from seeC_grown (seeC_below hV4.out lwb) hgrow hwt hls) (fun hHeld => ?_)
                clear hK K hHeld
                (try simp only [Act.put, List.setIfInBounds_toArray, List.set_cons_zero, List.set_cons_succ])
                have g1 := blk_grown (blk_below H1.out hV4.out) hgrow (fun h => absurd (H3.out.lt _ h.symm).1 (Nat.not_succ_le_self r))
                have e3 := blk_cell g1 3
                simp only [List.getElem?_toArray, List.getElem?_cons_zero, List.getElem?_cons_succ] at e3
                have f3 := blk_frozen g1 3
                have l2 := blk_lt g1
                have hs4 : SeeC wb w W4 := seeC_grown (seeC_below hV4.out lwb) hgrow hwt hls
                have HN : Hid (tideForm S [a, b] = some ⟨{ S.sea with tds := S.sea.tds ++ [⟨na, nb⟩] }, S.line⟩) := by rw [HF.out, ha]; simp only [Option.bind_some]; rw [hb]; rfl
                have hpost := tide_post H1.out H2.out H3.out H4.out H5.out hV4.out hown hgrow hnew HN.out
                rw [show (S.sea.tds ++ [(⟨na, nb⟩ : DTide)]).length = S.sea.tds.length + 1 by simp] at hpost
                have HP := Lib.hid hpost
                have HS4 := Lib.hid hs4
                clear hown hgrow hnew g1 hpost hs4
                refine wpAnyH_ready (rs := [17]) (by kernel_rfl) (by simp) ?_
                refine AllReadyH.cons rfl (fun K hK => ?_) (AllReadyH.nil)
                go_simp
                refine hK.out _ _ (HS4.out) (fun hHeld => ?_)
                clear hK K hHeld
                (try simp only [Act.put, List.setIfInBounds_toArray, List.set_cons_zero, List.set_cons_succ])
                refine wpAnyH_ready (rs := [18]) (by kernel_rfl) (by simp) ?_
                refine AllReadyH.cons rfl (fun K hK => ?_) (AllReadyH.nil)
                go_simp
                refine hK.out _ _ (HS4.out) (fun hHeld => ?_)
                clear hK K hHeld
                (try simp only [Act.put, List.setIfInBounds_toArray, List.set_cons_zero, List.set_cons_succ])
                refine wpAnyH_ready (rs := [19]) (by kernel_rfl) (by simp) ?_
                refine AllReadyH.cons rfl (fun K hK => ?_) (AllReadyH.nil)
                go_simp
                refine hK.out _ _ (HS4.out) (fun hHeld => ?_)
                clear hK K hHeld
                (try simp only [Act.put, List.setIfInBounds_toArray, List.set_cons_zero, List.set_cons_succ])
                refine wpAnyH_ready (rs := [20]) (by kernel_rfl) (by simp) ?_
                refine AllReadyH.cons rfl (fun K hK => ?_) (AllReadyH.nil)
                go_simp
                refine hK.out _ _ (seeC_set hwr HS4.out _ _) (fun hHeld => ?_)
                clear hK K hHeld
                (try simp only [Act.put, List.setIfInBounds_toArray, List.set_cons_zero, List.set_cons_succ])
                refine wpAnyH_done (by kernel_rfl) ?_ _
                go_wp2_with fail
                exact bodyPost_end (v := .tuple #[]) (by simp [results, Tryz.results190, go_sem]) rfl HP.out
    · go_simp
      refine (short_calls a true w.drew (FC _ (Fix.of_below hV0.out)).out za).mono ?_
      rintro e V6 ⟨rfl, hbb⟩
      have hV6 := Lib.hid (bl_step hV0.out hbb)
      clear hbb
      cases ha : shortOf true a.data.toList with
      | none =>
        have HN : Hid (tideForm S [a, b] = none) := by rw [HF.out, ha]; rfl
        unfold endOf noForm
        dsimp only
        exact ⟨rfl, Fix.of_below hV6.out, .inr ⟨HN.out, rfl⟩⟩
      | some na =>
        simp only [endOf]
        refine hK.out _ _ (show SeeC wb w _ from seeC_below hV6.out lwb) (fun hHeld => ?_)
        clear hK K hHeld
        (try simp only [Act.put, List.setIfInBounds_toArray, List.set_cons_zero, List.set_cons_succ])
        refine wpAnyH_ready (rs := [5, 13]) (by kernel_rfl) (by simp) ?_
        refine AllReadyH.cons rfl (fun K hK => ?_) (AllReadyH.cons rfl (fun K hK => ?_) (AllReadyH.nil))
        · have gq7 := blk_cell (blk_below H1.out hV6.out) 3
          simp only [List.getElem?_toArray, List.getElem?_cons_zero, List.getElem?_cons_succ] at gq7
          go_simp
          refine hK.out _ _ (show SeeC wb w _ from seeC_below hV6.out lwb) (fun hHeld => ?_)
          clear hK K hHeld
          (try simp only [Act.put, List.setIfInBounds_toArray, List.set_cons_zero, List.set_cons_succ])
          clear gq7
          refine wpAnyH_ready (rs := [13]) (by kernel_rfl) (by simp) ?_
          refine AllReadyH.cons rfl (fun K hK => ?_) (AllReadyH.nil)
          · go_simp
            refine (short_calls b false V6 (FC _ (Fix.of_below hV6.out)).out zb).mono ?_
            rintro e V8 ⟨rfl, hbb⟩
            have hV8 := Lib.hid (bl_step hV6.out hbb)
            clear hbb
            cases hb : shortOf false b.data.toList with
            | none =>
              have HN : Hid (tideForm S [a, b] = none) := by rw [HF.out, ha]; simp only [Option.bind_some]; rw [hb]; rfl
              unfold endOf noForm
              dsimp only
              exact ⟨rfl, Fix.of_below hV8.out, .inr ⟨HN.out, rfl⟩⟩
            | some nb =>
              simp only [endOf]
              refine hK.out _ _ (show SeeC wb w _ from seeC_below hV8.out lwb) (fun hHeld => ?_)
              clear hK K hHeld
              (try simp only [Act.put, List.setIfInBounds_toArray, List.set_cons_zero, List.set_cons_succ])
              have hHeld : SeeC wb w V8 := seeC_below hV8.out lwb
              refine wpAnyH_take (i := 14) (v := .agg #[iv na, iv nb]) rfl (by kernel_rfl) (by kernel_rfl) (by kernel_rfl) (fun _ _ _ h => h) (Or.inl ⟨by rfl, ?_⟩) (by assumption) ?_
              · intro U hSw; have hq := seeC_of hSw; go_simp
              try simp only [Act.put, List.setIfInBounds_toArray, List.set_cons_zero, List.set_cons_succ]
              clear hHeld
              refine wpAnyH_ready (rs := [15]) (by kernel_rfl) (by simp) ?_
              refine AllReadyH.cons rfl (fun K hK => ?_) (AllReadyH.nil)
              · go_simp
                refine hK.out _ _ (show SeeC wb w _ from seeC_below (bl_alloc hV8.out _) lwb) (fun hHeld => ?_)
                clear hK K hHeld
                (try simp only [Act.put, List.setIfInBounds_toArray, List.set_cons_zero, List.set_cons_succ])
                refine wpAnyH_na (fun V9 hW => ?_)
                have hV9 : Hid (Below w.heap.size w V9) := by rw [hW]; exact bl_alloc hV8.out _
                have gA9 : Hid (V9.heap[V8.heap.size]? = some (.cells #[iv na, iv nb] 138 (0, 0))) := by rw [hW]; exact blk_new _ _
                clear hW
                refine wpAnyH_ready (rs := [16]) (by kernel_rfl) (by simp) ?_
                refine AllReadyH.cons rfl (fun K hK => ?_) (AllReadyH.nil)
                refine step_push (cs := DTide.cs) (base := r + 1) rfl _ _ _ rfl (.agg #[iv 0, iv 0]) 16 Tryz.underlying23 info138 rfl (by decide) vt S.sea.tds ⟨na, nb⟩ rfl (H3.out.below hV9.out) V8.heap.size 1 1 rfl rfl (0, 0) 138 gA9.out rfl (by intro u hu; simp [DTide.cs] at hu; rcases hu with rfl | rfl <;> rfl) (by omega) (by decide) (by have := hV9.out.size; omega) ?_
                intro v' W4 hown hgrow hnew
                obtain ⟨A', c', rfl⟩ := hown.slice
                have hls : wb < V9.heap.size := Nat.lt_of_lt_of_le lwb hV9.out.size
                refine hK.out _ _ (show SeeC wb w W4 from seeC_grown (seeC_below hV9.out lwb) hgrow hwt hls) (fun hHeld => ?_)
                clear hK K hHeld
                (try simp only [Act.put, List.setIfInBounds_toArray, List.set_cons_zero, List.set_cons_succ])
                have g1 := blk_grown (blk_below H1.out hV9.out) hgrow (fun h => absurd (H3.out.lt _ h.symm).1 (Nat.not_succ_le_self r))
                have e3 := blk_cell g1 3
                simp only [List.getElem?_toArray, List.getElem?_cons_zero, List.getElem?_cons_succ] at e3
                have f3 := blk_frozen g1 3
                have l2 := blk_lt g1
                have hs4 : SeeC wb w W4 := seeC_grown (seeC_below hV9.out lwb) hgrow hwt hls
                have HN : Hid (tideForm S [a, b] = some ⟨{ S.sea with tds := S.sea.tds ++ [⟨na, nb⟩] }, S.line⟩) := by rw [HF.out, ha]; simp only [Option.bind_some]; rw [hb]; rfl
                have hpost := tide_post H1.out H2.out H3.out H4.out H5.out hV9.out hown hgrow hnew HN.out
                rw [show (S.sea.tds ++ [(⟨na, nb⟩ : DTide)]).length = S.sea.tds.length + 1 by simp] at hpost
                have HP := Lib.hid hpost
                have HS4 := Lib.hid hs4
                clear hown hgrow hnew g1 hpost hs4
                refine wpAnyH_ready (rs := [17]) (by kernel_rfl) (by simp) ?_
                refine AllReadyH.cons rfl (fun K hK => ?_) (AllReadyH.nil)
                go_simp
                refine hK.out _ _ (HS4.out) (fun hHeld => ?_)
                clear hK K hHeld
                (try simp only [Act.put, List.setIfInBounds_toArray, List.set_cons_zero, List.set_cons_succ])
                refine wpAnyH_ready (rs := [18]) (by kernel_rfl) (by simp) ?_
                refine AllReadyH.cons rfl (fun K hK => ?_) (AllReadyH.nil)
                go_simp
                refine hK.out _ _ (HS4.out) (fun hHeld => ?_)
                clear hK K hHeld
                (try simp only [Act.put, List.setIfInBounds_toArray, List.set_cons_zero, List.set_cons_succ])
                refine wpAnyH_ready (rs := [19]) (by kernel_rfl) (by simp) ?_
                refine AllReadyH.cons rfl (fun K hK => ?_) (AllReadyH.nil)
                go_simp
                refine hK.out _ _ (HS4.out) (fun hHeld => ?_)
                clear hK K hHeld
                (try simp only [Act.put, List.setIfInBounds_toArray, List.set_cons_zero, List.set_cons_succ])
                refine wpAnyH_ready (rs := [20]) (by kernel_rfl) (by simp) ?_
                refine AllReadyH.cons rfl (fun K hK => ?_) (AllReadyH.nil)
                go_simp
                refine hK.out _ _ (seeC_set hwr HS4.out _ _) (fun hHeld => ?_)
                clear hK K hHeld
                (try simp only [Act.put, List.setIfInBounds_toArray, List.set_cons_zero, List.set_cons_succ])
                refine wpAnyH_done (by kernel_rfl) ?_ _
                go_wp2_with fail
                exact bodyPost_end (v := .tuple #[]) (by simp [results, Tryz.results190, go_sem]) rfl HP.out
        · go_simp
          refine (short_calls b false V6 (FC _ (Fix.of_below hV6.out)).out zb).mono ?_
          rintro e V11 ⟨rfl, hbb⟩
          have hV11 := Lib.hid (bl_step hV6.out hbb)
          clear hbb
          cases hb : shortOf false b.data.toList with
          | none =>
            have HN : Hid (tideForm S [a, b] = none) := by rw [HF.out, ha]; simp only [Option.bind_some]; rw [hb]; rfl
            unfold endOf noForm
            dsimp only
            exact ⟨rfl, Fix.of_below hV11.out, .inr ⟨HN.out, rfl⟩⟩
          | some nb =>
            simp only [endOf]
            refine hK.out _ _ (show SeeC wb w _ from seeC_below hV11.out lwb) (fun hHeld => ?_)
            clear hK K hHeld
            (try simp only [Act.put, List.setIfInBounds_toArray, List.set_cons_zero, List.set_cons_succ])
            have hHeld : SeeC wb w V11 := seeC_below hV11.out lwb
            refine wpAnyH_take (i := 14) (v := .agg #[iv na, iv nb]) rfl (by kernel_rfl) (by kernel_rfl) (by kernel_rfl) (fun _ _ _ h => h) (Or.inl ⟨by rfl, ?_⟩) (by assumption) ?_
            · intro U hSw; have hq := seeC_of hSw; go_simp
            try simp only [Act.put, List.setIfInBounds_toArray, List.set_cons_zero, List.set_cons_succ]
            clear hHeld
            refine wpAnyH_ready (rs := [5, 15]) (by kernel_rfl) (by simp) ?_
            refine AllReadyH.cons rfl (fun K hK => ?_) (AllReadyH.cons rfl (fun K hK => ?_) (AllReadyH.nil))
            · have gq12 := blk_cell (blk_below H1.out hV11.out) 3
              simp only [List.getElem?_toArray, List.getElem?_cons_zero, List.getElem?_cons_succ] at gq12
              go_simp
              refine hK.out _ _ (show SeeC wb w _ from seeC_below hV11.out lwb) (fun hHeld => ?_)
              clear hK K hHeld
              (try simp only [Act.put, List.setIfInBounds_toArray, List.set_cons_zero, List.set_cons_succ])
              clear gq12
              refine wpAnyH_ready (rs := [15]) (by kernel_rfl) (by simp) ?_
              refine AllReadyH.cons rfl (fun K hK => ?_) (AllReadyH.nil)
              · go_simp
                refine hK.out _ _ (show SeeC wb w _ from seeC_below (bl_alloc hV11.out _) lwb) (fun hHeld => ?_)
                clear hK K hHeld
                (try simp only [Act.put, List.setIfInBounds_toArray, List.set_cons_zero, List.set_cons_succ])
                refine wpAnyH_na (fun V13 hW => ?_)
                have hV13 : Hid (Below w.heap.size w V13) := by rw [hW]; exact bl_alloc hV11.out _
                have gA13 : Hid (V13.heap[V11.heap.size]? = some (.cells #[iv na, iv nb] 138 (0, 0))) := by rw [hW]; exact blk_new _ _
                clear hW
                refine wpAnyH_ready (rs := [16]) (by kernel_rfl) (by simp) ?_
                refine AllReadyH.cons rfl (fun K hK => ?_) (AllReadyH.nil)
                refine step_push (cs := DTide.cs) (base := r + 1) rfl _ _ _ rfl (.agg #[iv 0, iv 0]) 16 Tryz.underlying23 info138 rfl (by decide) vt S.sea.tds ⟨na, nb⟩ rfl (H3.out.below hV13.out) V11.heap.size 1 1 rfl rfl (0, 0) 138 gA13.out rfl (by intro u hu; simp [DTide.cs] at hu; rcases hu with rfl | rfl <;> rfl) (by omega) (by decide) (by have := hV13.out.size; omega) ?_
                intro v' W4 hown hgrow hnew
                obtain ⟨A', c', rfl⟩ := hown.slice
                have hls : wb < V13.heap.size := Nat.lt_of_lt_of_le lwb hV13.out.size
                refine hK.out _ _ (show SeeC wb w W4 from seeC_grown (seeC_below hV13.out lwb) hgrow hwt hls) (fun hHeld => ?_)
                clear hK K hHeld
                (try simp only [Act.put, List.setIfInBounds_toArray, List.set_cons_zero, List.set_cons_succ])
                have g1 := blk_grown (blk_below H1.out hV13.out) hgrow (fun h => absurd (H3.out.lt _ h.symm).1 (Nat.not_succ_le_self r))
                have e3 := blk_cell g1 3
                simp only [List.getElem?_toArray, List.getElem?_cons_zero, List.getElem?_cons_succ] at e3
                have f3 := blk_frozen g1 3
                have l2 := blk_lt g1
                have hs4 : SeeC wb w W4 := seeC_grown (seeC_below hV13.out lwb) hgrow hwt hls
                have HN : Hid (tideForm S [a, b] = some ⟨{ S.sea with tds := S.sea.tds ++ [⟨na, nb⟩] }, S.line⟩) := by rw [HF.out, ha]; simp only [Option.bind_some]; rw [hb]; rfl
                have hpost := tide_post H1.out H2.out H3.out H4.out H5.out hV13.out hown hgrow hnew HN.out
                rw [show (S.sea.tds ++ [(⟨na, nb⟩ : DTide)]).length = S.sea.tds.length + 1 by simp] at hpost
                have HP := Lib.hid hpost
                have HS4 := Lib.hid hs4
                clear hown hgrow hnew g1 hpost hs4
                refine wpAnyH_ready (rs := [17]) (by kernel_rfl) (by simp) ?_
                refine AllReadyH.cons rfl (fun K hK => ?_) (AllReadyH.nil)
                go_simp
                refine hK.out _ _ (HS4.out) (fun hHeld => ?_)
                clear hK K hHeld
                (try simp only [Act.put, List.setIfInBounds_toArray, List.set_cons_zero, List.set_cons_succ])
                refine wpAnyH_ready (rs := [18]) (by kernel_rfl) (by simp) ?_
                refine AllReadyH.cons rfl (fun K hK => ?_) (AllReadyH.nil)
                go_simp
                refine hK.out _ _ (HS4.out) (fun hHeld => ?_)
                clear hK K hHeld
                (try simp only [Act.put, List.setIfInBounds_toArray, List.set_cons_zero, List.set_cons_succ])
                refine wpAnyH_ready (rs := [19]) (by kernel_rfl) (by simp) ?_
                refine AllReadyH.cons rfl (fun K hK => ?_) (AllReadyH.nil)
                go_simp
                refine hK.out _ _ (HS4.out) (fun hHeld => ?_)
                clear hK K hHeld
                (try simp only [Act.put, List.setIfInBounds_toArray, List.set_cons_zero, List.set_cons_succ])
                refine wpAnyH_ready (rs := [20]) (by kernel_rfl) (by simp) ?_
                refine AllReadyH.cons rfl (fun K hK => ?_) (AllReadyH.nil)
                go_simp
                refine hK.out _ _ (seeC_set hwr HS4.out _ _) (fun hHeld => ?_)
                clear hK K hHeld
                (try simp only [Act.put, List.setIfInBounds_toArray, List.set_cons_zero, List.set_cons_succ])
                refine wpAnyH_done (by kernel_rfl) ?_ _
                go_wp2_with fail
                exact bodyPost_end (v := .tuple #[]) (by simp [results, Tryz.results190, go_sem]) rfl HP.out
            · go_simp
              refine hK.out _ _ (show SeeC wb w _ from seeC_below (bl_alloc hV11.out _) lwb) (fun hHeld => ?_)
              clear hK K hHeld
              (try simp only [Act.put, List.setIfInBounds_toArray, List.set_cons_zero, List.set_cons_succ])
              refine wpAnyH_na (fun V15 hW => ?_)
              have hV15 : Hid (Below w.heap.size w V15) := by rw [hW]; exact bl_alloc hV11.out _
              have gA15 : Hid (V15.heap[V11.heap.size]? = some (.cells #[iv na, iv nb] 138 (0, 0))) := by rw [hW]; exact blk_new _ _
              clear hW
              refine wpAnyH_ready (rs := [5]) (by kernel_rfl) (by simp) ?_
              refine AllReadyH.cons rfl (fun K hK => ?_) (AllReadyH.nil)
              · have gq16 := blk_cell (blk_below H1.out hV15.out) 3
                simp only [List.getElem?_toArray, List.getElem?_cons_zero, List.getElem?_cons_succ] at gq16
                go_simp
                refine hK.out _ _ (show SeeC wb w _ from seeC_below hV15.out lwb) (fun hHeld => ?_)
                clear hK K hHeld
                (try simp only [Act.put, List.setIfInBounds_toArray, List.set_cons_zero, List.set_cons_succ])
                clear gq16
                refine wpAnyH_ready (rs := [16]) (by kernel_rfl) (by simp) ?_
                refine AllReadyH.cons rfl (fun K hK => ?_) (AllReadyH.nil)
                refine step_push (cs := DTide.cs) (base := r + 1) rfl _ _ _ rfl (.agg #[iv 0, iv 0]) 16 Tryz.underlying23 info138 rfl (by decide) vt S.sea.tds ⟨na, nb⟩ rfl (H3.out.below hV15.out) V11.heap.size 1 1 rfl rfl (0, 0) 138 gA15.out rfl (by intro u hu; simp [DTide.cs] at hu; rcases hu with rfl | rfl <;> rfl) (by omega) (by decide) (by have := hV15.out.size; omega) ?_
                intro v' W4 hown hgrow hnew
                obtain ⟨A', c', rfl⟩ := hown.slice
                have hls : wb < V15.heap.size := Nat.lt_of_lt_of_le lwb hV15.out.size
                refine hK.out _ _ (show SeeC wb w W4 from seeC_grown (seeC_below hV15.out lwb) hgrow hwt hls) (fun hHeld => ?_)
                clear hK K hHeld
                (try simp only [Act.put, List.setIfInBounds_toArray, List.set_cons_zero, List.set_cons_succ])
                have g1 := blk_grown (blk_below H1.out hV15.out) hgrow (fun h => absurd (H3.out.lt _ h.symm).1 (Nat.not_succ_le_self r))
                have e3 := blk_cell g1 3
                simp only [List.getElem?_toArray, List.getElem?_cons_zero, List.getElem?_cons_succ] at e3
                have f3 := blk_frozen g1 3
                have l2 := blk_lt g1
                have hs4 : SeeC wb w W4 := seeC_grown (seeC_below hV15.out lwb) hgrow hwt hls
                have HN : Hid (tideForm S [a, b] = some ⟨{ S.sea with tds := S.sea.tds ++ [⟨na, nb⟩] }, S.line⟩) := by rw [HF.out, ha]; simp only [Option.bind_some]; rw [hb]; rfl
                have hpost := tide_post H1.out H2.out H3.out H4.out H5.out hV15.out hown hgrow hnew HN.out
                rw [show (S.sea.tds ++ [(⟨na, nb⟩ : DTide)]).length = S.sea.tds.length + 1 by simp] at hpost
                have HP := Lib.hid hpost
                have HS4 := Lib.hid hs4
                clear hown hgrow hnew g1 hpost hs4
                refine wpAnyH_ready (rs := [17]) (by kernel_rfl) (by simp) ?_
                refine AllReadyH.cons rfl (fun K hK => ?_) (AllReadyH.nil)
                go_simp
                refine hK.out _ _ (HS4.out) (fun hHeld => ?_)
                clear hK K hHeld
                (try simp only [Act.put, List.setIfInBounds_toArray, List.set_cons_zero, List.set_cons_succ])
                refine wpAnyH_ready (rs := [18]) (by kernel_rfl) (by simp) ?_
                refine AllReadyH.cons rfl (fun K hK => ?_) (AllReadyH.nil)
                go_simp
                refine hK.out _ _ (HS4.out) (fun hHeld => ?_)
                clear hK K hHeld
                (try simp only [Act.put, List.setIfInBounds_toArray, List.set_cons_zero, List.set_cons_succ])
                refine wpAnyH_ready (rs := [19]) (by kernel_rfl) (by simp) ?_
                refine AllReadyH.cons rfl (fun K hK => ?_) (AllReadyH.nil)
                go_simp
                refine hK.out _ _ (HS4.out) (fun hHeld => ?_)
                clear hK K hHeld
                (try simp only [Act.put, List.setIfInBounds_toArray, List.set_cons_zero, List.set_cons_succ])
                refine wpAnyH_ready (rs := [20]) (by kernel_rfl) (by simp) ?_
                refine AllReadyH.cons rfl (fun K hK => ?_) (AllReadyH.nil)
                go_simp
                refine hK.out _ _ (seeC_set hwr HS4.out _ _) (fun hHeld => ?_)
                clear hK K hHeld
                (try simp only [Act.put, List.setIfInBounds_toArray, List.set_cons_zero, List.set_cons_succ])
                refine wpAnyH_done (by kernel_rfl) ?_ _
                go_wp2_with fail
                exact bodyPost_end (v := .tuple #[]) (by simp [results, Tryz.results190, go_sem]) rfl HP.out
  · have HF : Hid (tideForm S ws = none) := if_neg h0
    by_cases q : 2 ≤ S.line
    · have hl1 : ((ws.length : Int) == 2) = false := by
        have : ¬ ws.length = 2 := fun h => h0 ⟨q, h⟩
        simp; omega
      clear h0
      go_enter Tryz.func190, Tryz.ntmps190
      go_wp2_with fail
      refine (need_calls false w).mono ?_
      rintro e w3 ⟨rfl, hw3⟩
      have hw3' := hw3.symm
      subst hw3'
      rw [if_neg (by decide)]
      unfold noForm
      go_wp2_with fail
      exact ⟨rfl, Fix.refl _ _, .inr ⟨HF.out, rfl⟩⟩
    · clear h0
      go_enter Tryz.func190, Tryz.ntmps190
      go_wp2_with fail
      refine (need_calls false w).mono ?_
      rintro e w3 ⟨rfl, hw3⟩
      have hw3' := hw3.symm
      subst hw3'
      rw [if_neg (by decide)]
      unfold noForm
      go_wp2_with fail
      exact ⟨rfl, Fix.refl _ _, .inr ⟨HF.out, rfl⟩⟩
end Go.Proofs.YtjekioabkmijbaaGreatDoor
