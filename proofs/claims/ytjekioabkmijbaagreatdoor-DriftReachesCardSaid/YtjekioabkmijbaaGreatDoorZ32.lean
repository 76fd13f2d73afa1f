/- Reading a line. -/
import Derived.Test.YtjekioabkmijbaaGreatDoorZ31
import Derived.Lib.SplitLaws
set_option linter.unusedVariables false
set_option linter.unusedSimpArgs false
namespace Go.Proofs.YtjekioabkmijbaaGreatDoor
open Go.RowKit
def wordsOf (s : ByteArray) : List ByteArray := Lib.splitB ⟨#[32]⟩ 0 (Lib.countB s ⟨#[32]⟩) s
def stepOf (f : Nat) (S : RS) (ws : List ByteArray) : Option RS := if f = 186 then seaForm S ws else if f = 188 then heightsForm S ws else tideForm S ws
def readLine (S : RS) (s : ByteArray) : Option RS :=
  (formOf ((wordsOf s).headD default).data.toList).bind fun f => (stepOf f S (wordsOf s).tail).map fun S' => ⟨S'.sea, S'.line + 1⟩
def ReadPost (r : Nat) (X : Nat → Prop) (o : Option RS) (w : World) (e : Ending) (w' : World) : Prop :=
  Fix (fun b => ¬ X b) w w' ∧ ((∃ S X', o = some S ∧ e = .returned (iv 0) ∧ Rdr r X' S w' ∧ ∀ b, X' b → X b ∨ w.heap.size ≤ b) ∨ (o = none ∧ e = .returned (iv 4)))
theorem splitB_small (sep : ByteArray) (save : Nat) : ∀ (k : Nat) (s x : ByteArray), x ∈ Lib.splitB sep save k s → x.size ≤ s.size
  | 0, s, x, h => by
    rw [Lib.splitB_zero] at h
    simp at h; subst h; exact Nat.le_refl _
  | k + 1, s, x, h => by
    unfold Lib.splitB at h
    split at h
    · simp at h; subst h; exact Nat.le_refl _
    · rcases List.mem_cons.1 h with h | h
      · subst h
        simp [ByteArray.size_extract]; omega
      · have := splitB_small sep save k _ x h
        simp [ByteArray.size_extract] at this
        omega
theorem wordsOf_len (s : ByteArray) : (wordsOf s).length = Lib.countB s ⟨#[32]⟩ + 1 := Lib.splitB_all ⟨#[32]⟩ (by decide) 0 _ s rfl
theorem wordsOf_le (s : ByteArray) : (wordsOf s).length ≤ s.size + 1 := by
  rw [wordsOf_len]
  have := Lib.countB_le ⟨#[32]⟩ (by decide) _ s (Nat.le_refl _)
  omega
theorem strs_flat (ws : List ByteArray) : ws.flatMap strCs = ws.map Value.string := by
  induction ws with
  | nil => rfl
  | cons a l ih => simp [strCs, ih]
theorem sl_strs {w : World} {g : Nat} {ws : List ByteArray} {t : TypeId} {f : Nat × Nat} (h : w.heap[g]? = some (.cells (ws.map Value.string).toArray t f)) (k : Nat) (c : Nat) (hc : ws.length - k ≤ c) (hl : ws.length ≤ 1000000) : Sl strCs 1 w (.slice (some ⟨g, k, none⟩) (ws.length - k) c) (ws.drop k) := by
  refine ⟨some ⟨g, k, none⟩, c, by rw [List.length_drop], by rw [List.length_drop]; exact hc, by rw [List.length_drop]; omega, fun i x hi => ⟨g, k, rfl, fun j u hu => ?_⟩⟩
  have hj : j = 0 := by
    cases j with
    | zero => rfl
    | succ j => simp [strCs] at hu
  subst hj
  simp [strCs] at hu
  subst hu
  rw [blk_cell h]
  rw [List.getElem?_drop] at hi
  simp [hi]
theorem Rdr.below {r : Nat} {X : Nat → Prop} {S : RS} {w w' : World} (h : Rdr r X S w) (hb : Below w.heap.size w w') : Rdr r X S w' := by
  obtain ⟨vh, vt, h1, h2, h3, h4⟩ := h
  exact ⟨vh, vt, blk_below h1 hb, h2.below hb, h3.below hb, h4⟩
theorem step_calls (f : Nat) (s0 : List UInt8) (hf : formOf s0 = some f) (r : Nat) (X : Nat → Prop) (S : RS) (v : Value) (ws : List ByteArray) (w : World) (hR : Rdr r X S w) (hE : EnvB r w) (hs : Sl strCs 1 w v ws) (hX : ∀ b o n c, v = .slice (some ⟨b, o, none⟩) n c → ¬ X b) (hl : ws.length ≤ 1000000) (hz : ∀ s ∈ ws, s.size ≤ 1000000) (hli : 0 ≤ S.line ∧ S.line ≤ 1000000) (htl : S.sea.tds.length ≤ 1000000) :
    Calls Tryz.prog f #[.pointer (some ⟨r, 0, none⟩), v] w fun e w' => FormPost r X (stepOf f S ws) w e w' := by
  unfold formOf at hf
  split at hf
  · cases hf
    exact c190_calls r X S v ws w hR hE hs hX hl hz hli htl
  · split at hf
    · cases hf
      exact c188_calls r X S v ws w hR hE hs hl hz hli
    · split at hf
      · cases hf
        exact c186_calls r X S v ws w hR hE hs hX hl hz hli
      · cases hf
theorem enters_forms {f : Nat} {s0 : List UInt8} (hf : formOf s0 = some f) : ∀ args w, (callFunc f args).run Tryz.prog w = .ok (.enter f args) w := by
  unfold formOf at hf
  split at hf
  · cases hf; exact enters_of Tryz.func190 (by kernel_rfl) rfl
  · split at hf
    · cases hf; exact enters_of Tryz.func188 (by kernel_rfl) rfl
    · split at hf
      · cases hf; exact enters_of Tryz.func186 (by kernel_rfl) rfl
      · cases hf
theorem stepOf_line {f : Nat} {S S' : RS} {ws : List ByteArray} (h : stepOf f S ws = some S') : S'.line = S.line := by
  unfold stepOf at h
  split at h
  · unfold seaForm at h
    split at h
    · obtain ⟨c, _, h⟩ := Option.bind_eq_some_iff.1 h
      obtain ⟨b, _, rfl⟩ := Option.map_eq_some_iff.1 h
      rfl
    · cases h
  · split at h
    · unfold heightsForm at h
      split at h
      · obtain ⟨b, _, rfl⟩ := Option.map_eq_some_iff.1 h
        rfl
      · cases h
    · unfold tideForm at h
      split at h
      · obtain ⟨c, _, h⟩ := Option.bind_eq_some_iff.1 h
        obtain ⟨b, _, rfl⟩ := Option.map_eq_some_iff.1 h
        rfl
      · cases h
theorem read_post {r : Nat} {X X' : Nat → Prop} {S' : RS} {o : Option RS} {w w2 w3 U : World} (hb : Below w.heap.size w w2) (hf : Fix (fun b => ¬ X b) w2 w3) (hR : Rdr r X' S' w3) (hX : ∀ b, X' b → X b ∨ w2.heap.size ≤ b) (hXw : ∀ b, X b → b < w.heap.size) (hr : X r) (hlt : w.heap.size < w2.heap.size) (ho : o = some ⟨S'.sea, S'.line + 1⟩)
    (hU : Fix (fun b => b ≠ w.heap.size) ((w3.setCell ⟨r, 4, none⟩ (iv (S'.line + 1))).setCell ⟨w.heap.size, 0, none⟩ (iv 0)) U) : ReadPost r X o w (.returned (iv 0)) U := by
  have hrl := hXw r hr
  have hs2 := hf.size
  have hne : r ≠ w.heap.size := by omega
  have hXE : ∀ b, X' b → b ≠ w.heap.size := fun b h => by
    rcases hX b h with h | h
    · have := hXw b h; omega
    · omega
  obtain ⟨vh, vt, h1, h2, h3, h4, h5, h6, h7, h8⟩ := hR
  refine ⟨?_, .inl ⟨_, X', ho, rfl, ⟨vh, vt, ?_, ?_, ?_, h4, h5, h6, h7, h8⟩, fun b h => ?_⟩⟩
  · have k1 : Fix (fun b => ¬ X b) w w3 := (Fix.of_below hb).trans hf
    have k2 := (k1.setCell (p := ⟨r, 4, none⟩) (fun _ h => h hr) (iv (S'.line + 1))).setCell (p := ⟨w.heap.size, 0, none⟩) (fun h => absurd h (Nat.lt_irrefl _)) (iv 0)
    exact ⟨hU.os.trans k2.os, hU.tape.trans k2.tape, hU.output.trans k2.output, Nat.le_trans k2.size hU.size, fun b hb' hk => (hU.block b (Nat.lt_of_lt_of_le hb' k2.size) (by omega)).trans (k2.block b hb' hk)⟩
  · refine hU.blk ?_ hne
    have := blk_set h1 4 (iv (S'.line + 1))
    exact blk_far (p := ⟨w.heap.size, 0, none⟩) (by simpa using this) hne _
  · exact ((h2.set (fun h => absurd (h2.lt _ h).1 (Nat.not_succ_le_self r)) _).set (p := ⟨w.heap.size, 0, none⟩) (fun h => hXE _ (h6 _ h) rfl) _).fix hU (fun b h => hXE b (h6 b h))
  · exact ((h3.set (fun h => absurd (h3.lt _ h).1 (Nat.not_succ_le_self r)) _).set (p := ⟨w.heap.size, 0, none⟩) (fun h => hXE _ (h7 _ h) rfl) _).fix hU (fun b h => hXE b (h7 b h))
  · rcases hX b h with h | h
    · exact .inl h
    · exact .inr (by omega)
theorem sees0 {W V : World} (h : Below W.heap.size W V) : (∀ b o, b < W.heap.size → V.cell? ⟨b, o, none⟩ = W.cell? ⟨b, o, none⟩) ∧ Hid (Below W.heap.size W V) := ⟨fun b o hl => h.cell (p := ⟨b, o, none⟩) hl, h⟩
theorem sees0_start (W : World) : (∀ b o, b < W.heap.size → W.drew.cell? ⟨b, o, none⟩ = W.cell? ⟨b, o, none⟩) ∧ Hid (Below W.heap.size W W.drew) := sees0 ((Below.refl W.heap.size W).drew)
theorem sees0_step {W V V' : World} (h : (∀ b o, b < W.heap.size → V.cell? ⟨b, o, none⟩ = W.cell? ⟨b, o, none⟩) ∧ Hid (Below W.heap.size W V)) (hb : Below V.heap.size V V') : (∀ b o, b < W.heap.size → V'.cell? ⟨b, o, none⟩ = W.cell? ⟨b, o, none⟩) ∧ Hid (Below W.heap.size W V') := sees0 (bl_step h.2.out hb)
set_option maxHeartbeats 4000000 in
set_option maxRecDepth 20000 in
theorem read_calls (r : Nat) (X : Nat → Prop) (S : RS) (s : ByteArray) (w : World) (hR : Rdr r X S w) (hE : EnvB r w) (hz : s.size ≤ 100000) (hli : 0 ≤ S.line ∧ S.line ≤ 100000) (htl : S.sea.tds.length ≤ 100000) (hXw : ∀ b, X b → b < w.heap.size) :
    Calls Tryz.prog 96 #[.pointer (some ⟨r, 0, none⟩), .string s] w fun e w' => ReadPost r X (readLine S s) w e w' := by
  have HR := Lib.hid hR
  have HE := Lib.hid hE
  have HXW := Lib.hid hXw
  have HXR : Hid (X r) := by obtain ⟨_, _, _, _, _, _, h, _⟩ := hR; exact h
  have hrl : r < w.heap.size := by obtain ⟨_, _, h, _⟩ := hR; exact blk_lt h
  obtain ⟨m, hm⟩ := (hE.below ((bl_alloc (Below.refl w.heap.size w) (.cells #[iv 0] 35)).mono hE.1)).env.maxlen
  have HSP := Lib.hid (Tryz.strings_Split s ⟨#[32]⟩ m (w.alloc (.cells #[iv 0] 35)) (by omega) hm (by decide))
  clear hR hE hm hXw
  go_enter_defers Tryz.func96, Tryz.ntmps96
  go_wp2_with fail
  refine HSP.out.mono ?_
  rintro e w1 ⟨rfl, hw1⟩
  have hlen := wordsOf_len s
  have hle := wordsOf_le s
  have gE : w1.heap[w.heap.size]? = some (.cells #[iv 0] 35 (0, 0)) := by rw [hw1]; exact blk_alloc (blk_new _ _) _
  have gS : w1.heap[w.heap.size + 1]? = some (.cells ((wordsOf s).map Value.string).toArray 9 (0, 0)) := by rw [hw1]; exact blk_at _ (by simp)
  have hB1 : Below w.heap.size w w1 := by rw [hw1]; exact bl_alloc (bl_alloc (Below.refl _ _) _) _
  have hsml : ∀ x ∈ wordsOf s, x.size ≤ 100000 := fun x hx => Nat.le_trans (splitB_small _ _ _ s x hx) hz
  rw [← hlen, show (w.alloc (Obj.cells #[iv 0] 35)).heap.size = w.heap.size + 1 by simp]
  obtain ⟨ws, hws⟩ : ∃ q, q = wordsOf s := ⟨_, rfl⟩
  have HRL : Hid (readLine S s = (formOf (ws.headD default).data.toList).bind fun f => (stepOf f S ws.tail).map fun S' => ⟨S'.sea, S'.line + 1⟩) := by rw [hws]; rfl
  rw [← hws] at hlen hle gS hsml ⊢
  clear hw1 hws HSP
  obtain ⟨s0, rest, rfl⟩ : ∃ a l, ws = a :: l := by
    cases ws with
    | nil => simp at hlen
    | cons a l => exact ⟨a, l, rfl⟩
  have d0 := blk_cell gS 0
  simp only [List.getElem?_toArray, List.map_cons, List.getElem?_cons_zero] at d0
  have l1 := blk_lt gS
  have HB1 := Lib.hid hB1
  have GE := Lib.hid gE
  have GS := Lib.hid gS
  have HL := Lib.hid (And.intro hlen hle)
  have HSM := Lib.hid hsml
  have hs0 : s0.size ≤ maxLen := by have := hsml s0 (by simp); unfold maxLen; omega
  obtain ⟨n, hn⟩ : ∃ q, q = (s0 :: rest).length := ⟨_, rfl⟩
  rw [← hn]
  have hn1 : 1 ≤ n := by rw [hn]; simp
  have hn2 : n ≤ 1000000 := by omega
  have HN := Lib.hid hn
  clear hlen hle gE gS hB1 hsml hn
  go_wp2_with fail
  have hn3 : (0 : Int) < (n : Int) := by omega
  have hn4 : 0 < n := by omega
  go_region_held3 (fun V => (∀ b o, b < w1.heap.size → V.cell? ⟨b, o, none⟩ = w1.cell? ⟨b, o, none⟩) ∧ Hid (Below w1.heap.size w1 V)) (first | exact sees0_start w1 | exact sees0_step (sees0_start w1) hb7 | assumption) (first | (go_at_call 158; refine (forms_calls _).mono ?_; rintro e w' ⟨rfl, hF7, hb7⟩; have hlk : (Instr.lookup 204 (.map (some w1.heap.size)) (.string s0) true).run Tryz.prog w' = .ok (.tuple #[formV (formOf s0.data.toList), .bool (formOf s0.data.toList).isSome]) w' := hF7.look s0 hs0))
  rename _ ∧ Hid (Below w1.heap.size w1 _) => hAnd
  have hbx := hAnd.2.out
  rename World => w2
  have HBX := Lib.hid (bl_step HB1.out hbx)
  have GE2 := Lib.hid (blk_below GE.out hbx)
  have GS2 := Lib.hid (blk_below GS.out hbx)
  clear hAnd hb7 hF7 hlk hbx d0 l1
  have fin4 : ∀ (V : World) (defs : Array Value), Fix (fun b => ¬ X b) w V → (∃ x, V.heap[w.heap.size]? = some (.cells #[x] 35 (0, 0))) → readLine S s = none → defs[4]? = some (.pointer (some ⟨w.heap.size, 0, none⟩)) →
      Leaves Tryz.prog Tryz.f96 defs (fun e w' => ReadPost r X (readLine S s) w e w') [{ target := .fn (.func 110) #[], args := #[.pointer (some ⟨w.heap.size, 0, none⟩)] }] (.panicking [{ v := .iface 220 (.agg #[]), recovered := false }]) V := by
    rintro V defs hV ⟨x, hx⟩ hn hd
    refine leaves_cons (f := 110) (args := #[.pointer (some ⟨w.heap.size, 0, none⟩)]) (by simp) (by simp [go_sem]) ?_
    refine (caught_panicking w.heap.size x V hx).mono ?_
    rintro e u' w'' ⟨rfl, rfl, hb, hf⟩
    have c0 := blk_cell hb 0
    simp only [List.getElem?_toArray, List.getElem?_cons_zero] at c0
    have hfin : ReadPost r X (readLine S s) w (.returned (iv 4)) w'' := ⟨⟨hf.os.trans hV.os, hf.tape.trans hV.tape, hf.output.trans hV.output, Nat.le_trans hV.size hf.size, fun b hb' hk => (hf.block b (Nat.lt_of_lt_of_le hb' hV.size) (by omega)).trans (hV.block b hb' hk)⟩, .inr ⟨hn, rfl⟩⟩
    simp [Leaves, settle, results, Tryz.results96, go_sem, hd, c0]
    exact hfin
  have fin0 : ∀ (V : World) (defs : Array Value), (∀ U, Fix (fun b => b ≠ w.heap.size) V U → ReadPost r X (readLine S s) w (.returned (iv 0)) U) → V.heap[w.heap.size]? = some (.cells #[iv 0] 35 (0, 0)) → defs[4]? = some (.pointer (some ⟨w.heap.size, 0, none⟩)) →
      Leaves Tryz.prog Tryz.f96 defs (fun e w' => ReadPost r X (readLine S s) w e w') [{ target := .fn (.func 110) #[], args := #[.pointer (some ⟨w.heap.size, 0, none⟩)] }] .returning V := by
    rintro V defs hV hx hd
    have c0 := blk_cell hx 0
    simp only [List.getElem?_toArray, List.getElem?_cons_zero] at c0
    refine leaves_cons (f := 110) (args := #[.pointer (some ⟨w.heap.size, 0, none⟩)]) (by simp) (by simp [go_sem]) ?_
    refine (caught_idle w.heap.size V).mono ?_
    rintro e u' w'' ⟨rfl, rfl, rfl⟩
    have hfin := hV w'' (Fix.refl _ _)
    simp [Leaves, settle, results, Tryz.results96, go_sem, hd, c0]
    exact hfin
  cases hfo : formOf s0.data.toList with
  | none =>
    have HN : Hid (readLine S s = none) := by rw [HRL.out, show ((s0 :: rest).headD default) = s0 from rfl, hfo]; rfl
    simp only [formV, Option.isSome_none]
    go_wp2_with fail
    refine (need_calls false w2).mono ?_
    rintro e w3 ⟨rfl, rfl⟩
    rw [if_neg (by decide)]
    unfold noForm
    go_wp2_with fail
    exact fin4 _ _ (Fix.of_below HBX.out) ⟨_, GE2.out⟩ HN.out rfl
  | some f =>
    simp only [formV, Option.isSome_some]
    have hent := enters_forms hfo
    dsimp only [Option.elim]
    have hlt2 : w.heap.size < w2.heap.size := blk_lt GE2.out
    by_cases hn5 : n = 1
    · subst hn5
      have HSL : Hid (Sl strCs 1 w2 (.slice (some ⟨w.heap.size + 1, 0, none⟩) 0 0) rest) := by
        have hr0 : rest = [] := List.eq_nil_of_length_eq_zero (by have := HN.out; simp at this; simpa using this.symm)
        subst hr0
        exact ⟨_, 0, rfl, Nat.le_refl _, by simp, fun i x h => by simp at h⟩
      go_wp2_with fail
      refine (need_calls true w2).mono ?_
      rintro e w3 ⟨rfl, hw3⟩
      have hw3' := hw3.symm
      subst hw3'
      rw [if_pos rfl]
      clear hw3
      go_wp2_with fail
      refine (step_calls f _ hfo r X S _ rest w2 (HR.out.below HBX.out) (HE.out.below (HBX.out.mono HE.out.1)) HSL.out (by intro b o n c h hx; cases h; exact absurd (HXW.out _ hx) (by omega)) (by have := HL.out.2; simp at this; omega) (fun x hx => Nat.le_trans (HSM.out x (List.mem_cons_of_mem _ hx)) (by omega)) (by omega) (by omega)).mono ?_
      rintro e w3 ⟨hf3, ⟨S', X', ho, rfl, hR', hX'⟩ | ⟨ho, rfl⟩⟩
      · have HO : Hid (readLine S s = some ⟨S'.sea, S'.line + 1⟩) := by rw [HRL.out, show ((s0 :: rest).headD default) = s0 from rfl, hfo]; simp only [Option.bind_some, List.tail_cons]; rw [ho]; rfl
        have hli' := stepOf_line ho
        have HP : ∀ U, Fix (fun b => b ≠ w.heap.size) ((w3.setCell ⟨r, 4, none⟩ (iv (S'.line + 1))).setCell ⟨w.heap.size, 0, none⟩ (iv 0)) U → Hid (ReadPost r X (readLine S s) w (.returned (iv 0)) U) := fun U hU => read_post HBX.out hf3 hR' hX' HXW.out HXR.out hlt2 HO.out hU
        have HP := Lib.hid HP
        have GE3 := hf3.blk GE2.out (fun h => absurd (HXW.out _ h) (Nat.lt_irrefl _))
        obtain ⟨vh, vt, g1, _⟩ := hR'
        have e4 := blk_cell g1 4
        have eE := blk_cell GE3 0
        simp only [List.getElem?_toArray, List.getElem?_cons_zero, List.getElem?_cons_succ] at e4 eE
        have f4 := blk_frozen g1 4
        have fE := blk_frozen GE3 0
        have hne : ¬ r = w.heap.size := by omega
        have hne' : ¬ w.heap.size = r := by omega
        have lr := blk_lt g1
        have lE := blk_lt GE3
        have hw : IntKind.i64.wrap (S'.line + 1) = S'.line + 1 := IntWalk.i64_in _ (by omega)
        have GE3' := Lib.hid (blk_set (blk_far (p := ⟨r, 4, none⟩) GE3 (fun h => hne' h) (iv (S'.line + 1))) 0 (iv 0))
        clear g1 GE3 hf3 ho hX' hli'
        go_wp2_with fail
        exact fin0 _ _ (fun U hU => (HP.out U hU).out) (by simpa using GE3'.out) rfl
      · have HN : Hid (readLine S s = none) := by rw [HRL.out, show ((s0 :: rest).headD default) = s0 from rfl, hfo]; simp only [Option.bind_some, List.tail_cons]; rw [ho]; rfl
        have GE3 := hf3.blk GE2.out (fun h => absurd (HXW.out _ h) (Nat.lt_irrefl _))
        unfold noForm
        go_wp2_with fail
        exact fin4 _ _ ((Fix.of_below HBX.out).trans hf3) ⟨_, GE3⟩ HN.out rfl
    · have HSL : Hid (Sl strCs 1 w2 (.slice (some ⟨w.heap.size + 1, 1, none⟩) (n - 1) (n - 1)) rest) := by
        have := sl_strs GS2.out 1 (n - 1) (by rw [← HN.out]; omega) (by rw [← HN.out]; omega)
        rw [← HN.out] at this
        exact this
      have hn6 : 1 < n := by omega
      have hn7 : (1 : Int) < (n : Int) := by omega
      go_wp2_with fail
      refine (need_calls true w2).mono ?_
      rintro e w3 ⟨rfl, hw3⟩
      have hw3' := hw3.symm
      subst hw3'
      rw [if_pos rfl]
      clear hw3
      go_wp2_with fail
      refine (step_calls f _ hfo r X S _ rest w2 (HR.out.below HBX.out) (HE.out.below (HBX.out.mono HE.out.1)) HSL.out (by intro b o n c h hx; cases h; exact absurd (HXW.out _ hx) (by omega)) (by have := HL.out.2; simp at this; omega) (fun x hx => Nat.le_trans (HSM.out x (List.mem_cons_of_mem _ hx)) (by omega)) (by omega) (by omega)).mono ?_
      rintro e w3 ⟨hf3, ⟨S', X', ho, rfl, hR', hX'⟩ | ⟨ho, rfl⟩⟩
      · have HO : Hid (readLine S s = some ⟨S'.sea, S'.line + 1⟩) := by rw [HRL.out, show ((s0 :: rest).headD default) = s0 from rfl, hfo]; simp only [Option.bind_some, List.tail_cons]; rw [ho]; rfl
        have hli' := stepOf_line ho
        have HP : ∀ U, Fix (fun b => b ≠ w.heap.size) ((w3.setCell ⟨r, 4, none⟩ (iv (S'.line + 1))).setCell ⟨w.heap.size, 0, none⟩ (iv 0)) U → Hid (ReadPost r X (readLine S s) w (.returned (iv 0)) U) := fun U hU => read_post HBX.out hf3 hR' hX' HXW.out HXR.out hlt2 HO.out hU
        have HP := Lib.hid HP
        have GE3 := hf3.blk GE2.out (fun h => absurd (HXW.out _ h) (Nat.lt_irrefl _))
        obtain ⟨vh, vt, g1, _⟩ := hR'
        have e4 := blk_cell g1 4
        have eE := blk_cell GE3 0
        simp only [List.getElem?_toArray, List.getElem?_cons_zero, List.getElem?_cons_succ] at e4 eE
        have f4 := blk_frozen g1 4
        have fE := blk_frozen GE3 0
        have hne : ¬ r = w.heap.size := by omega
        have hne' : ¬ w.heap.size = r := by omega
        have lr := blk_lt g1
        have lE := blk_lt GE3
        have hw : IntKind.i64.wrap (S'.line + 1) = S'.line + 1 := IntWalk.i64_in _ (by omega)
        have GE3' := Lib.hid (blk_set (blk_far (p := ⟨r, 4, none⟩) GE3 (fun h => hne' h) (iv (S'.line + 1))) 0 (iv 0))
        clear g1 GE3 hf3 ho hX' hli'
        go_wp2_with fail
        exact fin0 _ _ (fun U hU => (HP.out U hU).out) (by simpa using GE3'.out) rfl
      · have HN : Hid (readLine S s = none) := by rw [HRL.out, show ((s0 :: rest).headD default) = s0 from rfl, hfo]; simp only [Option.bind_some, List.tail_cons]; rw [ho]; rfl
        have GE3 := hf3.blk GE2.out (fun h => absurd (HXW.out _ h) (Nat.lt_irrefl _))
        unfold noForm
        go_wp2_with fail
        exact fin4 _ _ ((Fix.of_below HBX.out).trans hf3) ⟨_, GE3⟩ HN.out rfl
end Go.Proofs.YtjekioabkmijbaaGreatDoor
