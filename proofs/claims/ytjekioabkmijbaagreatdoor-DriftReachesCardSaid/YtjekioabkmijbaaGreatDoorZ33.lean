/- ParseSea. -/
import Derived.Test.YtjekioabkmijbaaGreatDoorZ32
import Derived.Test.YtjekioabkmijbaaGreatDoorZ07
import Derived.Test.YtjekioabkmijbaaGreatDoorZ21
import Derived.Test.YtjekioabkmijbaaGreatDoorZ23
import Derived.Test.YtjekioabkmijbaaGreatDoorZ26
import Derived.Test.YtjekioabkmijbaaGreatDoorZ27
set_option linter.unusedVariables false
set_option linter.unusedSimpArgs false
namespace Go.Proofs.YtjekioabkmijbaaGreatDoor
open Go.RowKit
def linesOf (s : ByteArray) : List ByteArray := Lib.splitB ⟨#[10]⟩ 0 (Lib.countB s ⟨#[10]⟩) s
def skips (s : ByteArray) : Bool := s.data.toList.head?.all fun c => c == 35
theorem skips_nil {x : ByteArray} (h : x.size = 0) : skips x = true ∧ x.toList.isEmpty = true := by
  obtain ⟨⟨l⟩⟩ := x
  cases l with
  | nil => exact ⟨rfl, by rw [ByteArray.toList_eq]; rfl⟩
  | cons a l => simp [ByteArray.size] at h
theorem skips_cons {x : ByteArray} (h : 0 < x.size) : skips x = ((((x[0]'h).toNat : Nat) : Int) == 35) ∧ x.toList.isEmpty = false := by
  rw [ByteArray.toList_eq]
  obtain ⟨⟨l⟩⟩ := x
  cases l with
  | nil => simp [ByteArray.size] at h
  | cons a l =>
    refine ⟨?_, rfl⟩
    show (a == 35) = (((a.toNat : Nat) : Int) == 35)
    rw [Bool.eq_iff_iff, beq_iff_eq, beq_iff_eq]
    constructor
    · rintro rfl; rfl
    · intro h
      apply UInt8.toNat_inj.1
      have : a.toNat = 35 := by omega
      rw [this]; rfl
def parseFrom : Nat → List ByteArray → RS → RS ⊕ Nat
  | _, [], S => .inl S
  | k, s :: l, S => if skips s then parseFrom (k + 1) l S else match readLine S s with
    | none => .inr (k + 1)
    | some S' => parseFrom (k + 1) l S'
def noSea : DSea := ⟨0, 0, [], []⟩
def parseSea (src : ByteArray) : DSea × Int × Int :=
  if 20000 < src.size then (noSea, 2, 0) else match parseFrom 0 (linesOf src) ⟨noSea, 0⟩ with
    | .inr k => (noSea, 4, k)
    | .inl S => if S.line < 3 then (noSea, 4, 0) else if seaOk S.sea then (S.sea, 0, 0) else (noSea, 1, 0)
def ParsePost (p : DSea × Int × Int) (w : World) (e : Ending) (w' : World) : Prop :=
  ∃ vh vt, e = .returned (.tuple #[.agg #[iv p.1.cells, iv p.1.bands, vh, vt], .agg #[iv p.2.1, iv p.2.2]]) ∧ Own intCs 1 3 w.heap.size w' vh p.1.hts ∧ Own DTide.cs 2 138 w.heap.size w' vt p.1.tds ∧ Below w.heap.size w w'
/-- The loop's state behind k lines. -/
def ParseSt (ls : List ByteArray) (r : Nat) (W : World) (k : Nat) (S : RS) (X : Nat → Prop) (V : World) : Prop :=
  Rdr r X S V ∧ parseFrom 0 ls ⟨noSea, 0⟩ = parseFrom k (ls.drop k) S ∧ (∀ b, X b → b = r ∨ W.heap.size ≤ b) ∧ (∀ b, X b → b < V.heap.size) ∧ (0 ≤ S.line ∧ S.line ≤ k) ∧ (S.sea.tds.length ≤ k ∧ S.sea.hts.length ≤ 100000) ∧ Fix (fun b => b < W.heap.size ∧ b ≠ r) W V
theorem stepOf_tds {f : Nat} {S S' : RS} {ws : List ByteArray} (h : stepOf f S ws = some S') : S'.sea.tds.length ≤ S.sea.tds.length + 1 := by
  unfold stepOf at h
  split at h
  · unfold seaForm at h
    split at h
    · obtain ⟨c, _, h⟩ := Option.bind_eq_some_iff.1 h
      obtain ⟨b, _, rfl⟩ := Option.map_eq_some_iff.1 h
      exact Nat.le_succ _
    · cases h
  · split at h
    · unfold heightsForm at h
      split at h
      · obtain ⟨b, _, rfl⟩ := Option.map_eq_some_iff.1 h
        exact Nat.le_succ _
      · cases h
    · unfold tideForm at h
      split at h
      · obtain ⟨c, _, h⟩ := Option.bind_eq_some_iff.1 h
        obtain ⟨b, _, rfl⟩ := Option.map_eq_some_iff.1 h
        simp
      · cases h
theorem mapM_len {α β : Type} (g : α → Option β) : ∀ (l : List α) (ys : List β), l.mapM g = some ys → ys.length = l.length
  | [], ys, h => by simp at h; subst h; rfl
  | a :: l, ys, h => by
    rw [List.mapM_cons] at h
    obtain ⟨y, _, h⟩ := Option.bind_eq_some_iff.1 h
    obtain ⟨zs, hz, h⟩ := Option.bind_eq_some_iff.1 h
    cases h
    simp [mapM_len g l zs hz]
theorem stepOf_hts {f : Nat} {S S' : RS} {ws : List ByteArray} (h : stepOf f S ws = some S') : S'.sea.hts.length ≤ max S.sea.hts.length ws.length := by
  unfold stepOf at h
  split at h
  · unfold seaForm at h
    split at h
    · obtain ⟨c, _, h⟩ := Option.bind_eq_some_iff.1 h
      obtain ⟨b, _, rfl⟩ := Option.map_eq_some_iff.1 h
      exact Nat.le_max_left _ _
    · cases h
  · split at h
    · unfold heightsForm at h
      split at h
      · obtain ⟨b, hb, rfl⟩ := Option.map_eq_some_iff.1 h
        dsimp only
        rw [mapM_len _ _ _ hb]
        exact Nat.le_max_right _ _
      · cases h
    · unfold tideForm at h
      split at h
      · obtain ⟨c, _, h⟩ := Option.bind_eq_some_iff.1 h
        obtain ⟨b, _, rfl⟩ := Option.map_eq_some_iff.1 h
        exact Nat.le_max_left _ _
      · cases h
theorem readLine_hts {S S' : RS} {x : ByteArray} (h : readLine S x = some S') : S'.sea.hts.length ≤ max S.sea.hts.length x.size := by
  unfold readLine at h
  obtain ⟨f, _, h⟩ := Option.bind_eq_some_iff.1 h
  obtain ⟨T, hT, rfl⟩ := Option.map_eq_some_iff.1 h
  have h1 := stepOf_hts hT
  have h2 := wordsOf_le x
  have h3 : (wordsOf x).tail.length ≤ x.size := by rw [List.length_tail]; omega
  dsimp only
  omega
theorem readLine_facts {S S' : RS} {x : ByteArray} (h : readLine S x = some S') : S'.line = S.line + 1 ∧ S'.sea.tds.length ≤ S.sea.tds.length + 1 := by
  unfold readLine at h
  obtain ⟨f, _, h⟩ := Option.bind_eq_some_iff.1 h
  obtain ⟨T, hT, rfl⟩ := Option.map_eq_some_iff.1 h
  exact ⟨by rw [← stepOf_line hT], by simpa using stepOf_tds hT⟩
theorem next_st {ls : List ByteArray} {r k : Nat} {W V w3 : World} {S S' : RS} {X X' : Nat → Prop} {x : ByteArray} (h : ParseSt ls r W k S X V) (hd : parseFrom k (ls.drop k) S = parseFrom (k + 1) (ls.drop (k + 1)) S') (ho : readLine S x = some S') (hxz : x.size ≤ 20000)
    (hf : Fix (fun b => ¬ X b) V w3) (hR : Rdr r X' S' w3) (hX : ∀ b, X' b → X b ∨ V.heap.size ≤ b) : ParseSt ls r W (k + 1) S' (fun b => X' b ∧ b < w3.heap.size) w3 := by
  obtain ⟨h1, h2, h3, h4, h5, h6, h7⟩ := h
  obtain ⟨f1, f2⟩ := readLine_facts ho
  have f3 := readLine_hts ho
  obtain ⟨vh, vt, g1, g2, g3, g4, g5, g6, g7, g8⟩ := hR
  have hvs := h7.size
  refine ⟨⟨vh, vt, g1, g2, g3, g4, ⟨g5, blk_lt g1⟩, fun b hb => ⟨g6 b hb, (g2.lt b hb).2⟩, fun b hb => ⟨g7 b hb, (g3.lt b hb).2⟩, fun b hb => g8 b hb.1⟩, h2.trans hd, fun b hb => ?_, fun b hb => hb.2, ⟨by omega, by omega⟩, ⟨by omega, by omega⟩, ?_⟩
  · rcases hX b hb.1 with h | h
    · exact h3 b h
    · exact .inr (by omega)
  · refine ⟨hf.os.trans h7.os, hf.tape.trans h7.tape, hf.output.trans h7.output, Nat.le_trans h7.size hf.size, fun b hb hk => (hf.block b (by omega) (fun hx => ?_)).trans (h7.block b hb hk)⟩
    rcases h3 b hx with h | h
    · exact hk.2 h
    · omega
theorem res_below {w V : World} {g : Nat} (h : Below g w V) (a b c d e f : Value) : Below g w ((((((V.setCell ⟨g, 0, none⟩ a).setCell ⟨g, 1, none⟩ b).setCell ⟨g, 2, none⟩ c).setCell ⟨g, 3, none⟩ d).setCell ⟨g + 1, 0, none⟩ e).setCell ⟨g + 1, 1, none⟩ f) :=
  (((((h.setCell (p := ⟨g, 0, none⟩) (Nat.le_refl _) a).setCell (p := ⟨g, 1, none⟩) (Nat.le_refl _) b).setCell (p := ⟨g, 2, none⟩) (Nat.le_refl _) c).setCell (p := ⟨g, 3, none⟩) (Nat.le_refl _) d).setCell (p := ⟨g + 1, 0, none⟩) (Nat.le_succ _) e).setCell (p := ⟨g + 1, 1, none⟩) (Nat.le_succ _) f
theorem res_own {α : Type} {cs : α → List Value} {k ty base : Nat} {V : World} {v : Value} {xs : List α} {g : Nat} (h : Own cs k ty base V v xs) (hb : g + 1 < base) (a b c d e f : Value) : Own cs k ty base ((((((V.setCell ⟨g, 0, none⟩ a).setCell ⟨g, 1, none⟩ b).setCell ⟨g, 2, none⟩ c).setCell ⟨g, 3, none⟩ d).setCell ⟨g + 1, 0, none⟩ e).setCell ⟨g + 1, 1, none⟩ f) v xs := by
  have n0 : v.ownBlock ≠ some g := fun h' => by have := (h.lt _ h').1; omega
  have n1 : v.ownBlock ≠ some (g + 1) := fun h' => by have := (h.lt _ h').1; omega
  exact (((((h.set (p := ⟨g, 0, none⟩) n0 a).set (p := ⟨g, 1, none⟩) n0 b).set (p := ⟨g, 2, none⟩) n0 c).set (p := ⟨g, 3, none⟩) n0 d).set (p := ⟨g + 1, 0, none⟩) n1 e).set (p := ⟨g + 1, 1, none⟩) n1 f
theorem skip_st {ls : List ByteArray} {r k : Nat} {W V : World} {S : RS} {X : Nat → Prop} (h : ParseSt ls r W k S X V) (hd : parseFrom k (ls.drop k) S = if true = true then parseFrom (k + 1) (ls.drop (k + 1)) S else match readLine S (ls.getD k default) with
          | none => .inr (k + 1)
          | some S' => parseFrom (k + 1) (ls.drop (k + 1)) S') : ParseSt ls r W (k + 1) S X V := by
  obtain ⟨h1, h2, h3, h4, h5, h6, h7⟩ := h
  exact ⟨h1, h2.trans (hd.trans (if_pos rfl)), h3, h4, ⟨h5.1, by omega⟩, ⟨by omega, h6.2⟩, h7⟩
set_option maxHeartbeats 4000000 in
set_option maxRecDepth 20000 in
theorem parse_calls (src : ByteArray) (w : World) (hE : Env w) (hz : src.size ≤ 1000000) :
    Calls Tryz.prog 38 #[.string src] w fun e w' => ParsePost (parseSea src) w e w' := by
  by_cases hbig : 20000 < src.size
  · have HP : Hid (parseSea src = (noSea, 2, 0)) := if_pos hbig
    have hb2 : (20000 : Int) < (src.size : Int) := by omega
    clear hbig
    go_enter Tryz.func38, Tryz.ntmps38
    go_wp2
    refine bodyPost_ret (v := .tuple #[.agg #[iv 0, iv 0, .slice none 0 0, .slice none 0 0], .agg #[iv 2, iv 0]]) (by simp [results, Tryz.results38, go_sem]) rfl ?_
    rw [HP.out]
    exact ⟨_, _, rfl, Own.nil _ _, Own.nil _ _, bl_alloc (bl_alloc (Below.refl _ _) _) _⟩
  · have hb2 : ¬ (20000 : Int) < (src.size : Int) := by omega
    have HP : Hid (parseSea src = match parseFrom 0 (linesOf src) ⟨noSea, 0⟩ with
      | .inr k => (noSea, 4, (k : Int))
      | .inl S => if S.line < 3 then (noSea, 4, 0) else if seaOk S.sea then (S.sea, 0, 0) else (noSea, 1, 0)) := if_neg hbig
    have HE := Lib.hid hE
    clear hbig hE
    go_enter Tryz.func38, Tryz.ntmps38
    go_wp2_with fail
    refine calls_abs (fun W0 hW0 => ?_)
    have g2 : W0.heap[w.heap.size]? = some (.cells #[iv 0, iv 0, .slice none 0 0, .slice none 0 0] 25 (0, 0)) := by rw [hW0]; exact blk_alloc (blk_alloc (blk_new _ _) _) _
    have g3 : W0.heap[w.heap.size + 1]? = some (.cells #[iv 0, iv 0] 63 (0, 0)) := by rw [hW0]; exact blk_alloc (blk_at _ (by simp)) _
    have g4 : W0.heap[w.heap.size + 1 + 1]? = some (.cells #[iv 0, iv 0, .slice none 0 0, .slice none 0 0, iv 0] 141 (0, 0)) := by rw [hW0]; exact blk_at _ (by simp)
    have hB0 : Below w.heap.size w W0 := by rw [hW0]; exact bl_alloc (bl_alloc (bl_alloc (Below.refl _ _) _) _) _
    have hs0 : W0.heap.size = w.heap.size + 1 + 1 + 1 := by rw [hW0]; simp
    obtain ⟨m, hm⟩ := (HE.out.below hB0).maxlen
    clear hW0
    refine (Tryz.strings_Split src ⟨#[10]⟩ m W0 (by omega) hm (by decide)).mono ?_
    rintro e W ⟨rfl, hW⟩
    have hlen : (linesOf src).length = Lib.countB src ⟨#[10]⟩ + 1 := Lib.splitB_all ⟨#[10]⟩ (by decide) 0 _ src rfl
    have hle : Lib.countB src ⟨#[10]⟩ ≤ src.size := Lib.countB_le ⟨#[10]⟩ (by decide) _ src (Nat.le_refl _)
    have hsm : ∀ x ∈ linesOf src, x.size ≤ 20000 := fun x hx => Nat.le_trans (splitB_small _ _ _ src x hx) (by omega)
    have gS : W.heap[W0.heap.size]? = some (.cells ((linesOf src).map Value.string).toArray 9 (0, 0)) := by rw [hW]; exact blk_new _ _
    have hB1 : Below W0.heap.size W0 W := by rw [hW]; exact bl_alloc (Below.refl _ _) _
    have hsW : W.heap.size = W0.heap.size + 1 := by rw [hW]; simp
    rw [← hlen]
    obtain ⟨ls, hls⟩ : ∃ q, q = linesOf src := ⟨_, rfl⟩
    rw [← hls] at hlen hsm gS HP ⊢
    obtain ⟨r, hr⟩ : ∃ q, q = w.heap.size + 1 + 1 := ⟨_, rfl⟩
    rw [hs0] at gS hsW ⊢
    rw [← hr] at g4 gS hsW ⊢
    have hB := bl_step hB0 hB1
    have hEB : EnvB r W := ⟨by omega, fun w' h => HE.out.below (hB.trans (h.mono (by omega)))⟩
    have hR0 : Rdr r (fun b => b = r) ⟨noSea, 0⟩ W := ⟨.slice none 0 0, .slice none 0 0, blk_below g4 hB1, Own.nil _ _, Own.nil _ _, fun b h => by simp [Value.ownBlock] at h, rfl, fun b h => by simp [Value.ownBlock] at h, fun b h => by simp [Value.ownBlock] at h, fun b h => by omega⟩
    have HG2 := Lib.hid (blk_below g2 hB1)
    have HG3 := Lib.hid (blk_below g3 hB1)
    have HGS := Lib.hid gS
    have HB := Lib.hid hB
    have HEB := Lib.hid hEB
    have HSM := Lib.hid hsm
    have hln : ls.length ≤ 20001 := by omega
    have HRR : Hid (r = w.heap.size + 1 + 1 ∧ W.heap.size = r + 1 + 1) := ⟨hr, hsW⟩
    have HST : Hid (ParseSt ls r W 0 ⟨noSea, 0⟩ (fun b => b = r) W) := ⟨hR0, rfl, fun b h => .inl h, fun b h => by omega, ⟨Int.le_refl _, Int.le_refl _⟩, ⟨Nat.le_refl _, Nat.zero_le _⟩, Fix.refl _ _⟩
    have hrr : r + 1 < W.heap.size := by omega
    clear hW hlen hle hsm gS hB hB0 hB1 hs0 g2 g3 g4 hm hls hr hsW hEB hR0
    go_wp2_with fail
    go_loopg [19] ls.length (fun n i wr => ∃ k : Nat, k ≤ ls.length ∧ n = ls.length - k ∧ i = .int .i64 k ∧ (∃ S X, Hid (ParseSt ls r W k S X wr)))
    case atStart => exact ⟨0, by omega, by omega, rfl, _, _, HST.out⟩
    case round =>
      obtain ⟨k, hk, hn, rfl, S, X, HS⟩ := hrel
      by_cases hlt : k < ls.length
      · have hx : ls[k]? = some ls[k] := List.getElem?_eq_getElem hlt
        obtain ⟨x, hxe⟩ : ∃ x, x = ls[k] := ⟨_, rfl⟩
        rw [← hxe] at hx
        have hxs := HSM.out x (by rw [hxe]; exact List.getElem_mem _)
        have hdr : ls.drop k = x :: ls.drop (k + 1) := by rw [hxe]; exact List.drop_eq_getElem_cons hlt
        have HDR : Hid (parseFrom k (ls.drop k) S = if skips x then parseFrom (k + 1) (ls.drop (k + 1)) S else match readLine S x with
          | none => .inr (k + 1)
          | some S' => parseFrom (k + 1) (ls.drop (k + 1)) S') := by rw [hdr]; rfl
        clear hxe hdr
        have gs := HS.out.2.2.2.2.2.2.blk HGS.out ⟨by omega, by omega⟩
        have d0 := blk_cell gs k
        have l0 := blk_lt gs
        simp only [List.getElem?_toArray, List.getElem?_map, hx, Option.map_some] at d0
        clear gs hx
        have hlt' : (k : Int) < (ls.length : Int) := by omega
        by_cases hx0 : x.size = 0
        · obtain ⟨hsk, hse⟩ := skips_nil hx0
          rw [hsk] at HDR
          have HNX : Hid (ParseSt ls r W (k + 1) S X wr) := skip_st HS.out (HDR.out.trans (by rfl))
          clear hsk hx0
          go_wp2_with fail
          go_roundg (ls.length - (k + 1))
          case measure => omega
          case rel => exact ⟨k + 1, by omega, rfl, by go_num, S, X, HNX.out⟩
        · have hxp : 0 < x.size := by omega
          have hxp' : (0 : Int) < (x.size : Int) := by omega
          obtain ⟨hsk, hse⟩ := skips_cons hxp
          cases h35 : ((((x[0]'hxp).toNat : Nat) : Int) == 35) with
          | true =>
            rw [hsk, h35] at HDR
            have HNX : Hid (ParseSt ls r W (k + 1) S X wr) := skip_st HS.out (HDR.out.trans (by rfl))
            clear hsk hx0
            go_wp2_with fail
            go_roundg (ls.length - (k + 1))
            case measure => omega
            case rel => exact ⟨k + 1, by omega, rfl, by go_num, S, X, HNX.out⟩
          | false =>
            rw [hsk, h35] at HDR
            clear hsk hx0
            have hst := HS.out
            have hbr : Below r W wr := hst.2.2.2.2.2.2.mono (K' := fun b => b < r) (fun b _ hb => ⟨by omega, by omega⟩) |>.to_below (by omega)
            have HC := Lib.hid (read_calls r X S x wr hst.1 (HEB.out.below hbr) (by omega) (by have := hst.2.2.2.2.1; omega) (by have := hst.2.2.2.2.2.1.1; omega) hst.2.2.2.1)
            clear hst hbr
            go_wp2_with fail
            refine HC.out.mono ?_
            rintro e w3 ⟨hf3, ⟨S', X', ho, rfl, hR', hX'⟩ | ⟨ho, rfl⟩⟩
            · have HNX : Hid (ParseSt ls r W (k + 1) S' (fun b => X' b ∧ b < w3.heap.size) w3) := next_st HS.out (HDR.out.trans (by rw [ho]; rfl)) ho hxs hf3 hR' hX'
              clear hf3 ho hR' hX'
              go_wp2_with fail
              go_roundg (ls.length - (k + 1))
              case measure => omega
              case rel => exact ⟨k + 1, by omega, rfl, by go_num, S', _, HNX.out⟩
            · have hpf : parseFrom 0 ls ⟨noSea, 0⟩ = .inr (k + 1) := HS.out.2.1.trans (HDR.out.trans (by rw [ho]; rfl))
              rw [hpf] at HP
              have hst := HS.out
              have hx1 : ∀ b, b < r → ¬ X b := fun b hb hx => by rcases hst.2.2.1 b hx with h | h <;> omega
              have hrw := HRR.out
              have q2 := hf3.blk (hst.2.2.2.2.2.2.blk HG2.out ⟨by omega, by omega⟩) (hx1 _ (by omega))
              have q3 := hf3.blk (hst.2.2.2.2.2.2.blk HG3.out ⟨by omega, by omega⟩) (hx1 _ (by omega))
              have hb3 : Hid (Below w.heap.size w w3) := HB.out.trans (((hst.2.2.2.2.2.2.mono (K' := fun b => b < w.heap.size) fun b _ hb => ⟨by omega, by omega⟩).trans (hf3.mono fun b _ hb => hx1 b (by omega))).to_below (by omega))
              have a0 := blk_cell q2 0
              have a1 := blk_cell q2 1
              have a2 := blk_cell q2 2
              have a3 := blk_cell q2 3
              have b0 := blk_cell q3 0
              have b1 := blk_cell q3 1
              simp only [List.getElem?_toArray, List.getElem?_cons_zero, List.getElem?_cons_succ] at a0 a1 a2 a3 b0 b1
              have fa0 := blk_frozen q2 0
              have fa1 := blk_frozen q2 1
              have fa2 := blk_frozen q2 2
              have fa3 := blk_frozen q2 3
              have fb0 := blk_frozen q3 0
              have fb1 := blk_frozen q3 1
              have l2 := blk_lt q2
              have l3 := blk_lt q3
              clear hst hx1 hrw q2 q3 hf3 ho hpf
              go_wp2_with fail
              refine bodyPost_ret (v := .tuple #[.agg #[iv 0, iv 0, .slice none 0 0, .slice none 0 0], .agg #[iv 4, iv ((k + 1 : Nat) : Int)]]) (by simp [results, Tryz.results38, go_sem, *]) rfl ?_
              rw [HP.out]
              exact ⟨_, _, rfl, Own.nil _ _, Own.nil _ _, res_below hb3.out _ _ _ _ _ _⟩
      · obtain rfl : k = ls.length := by omega
        have hpf : parseFrom 0 ls ⟨noSea, 0⟩ = .inl S := HS.out.2.1.trans (by rw [List.drop_length]; rfl)
        rw [hpf] at HP
        have hst := HS.out
        have hrw := HRR.out
        have q2 := hst.2.2.2.2.2.2.blk HG2.out ⟨by omega, by omega⟩
        have q3 := hst.2.2.2.2.2.2.blk HG3.out ⟨by omega, by omega⟩
        have hb3 : Hid (Below w.heap.size w wr) := HB.out.trans ((hst.2.2.2.2.2.2.mono (K' := fun b => b < w.heap.size) fun b _ hb => ⟨by omega, by omega⟩).to_below (by omega))
        obtain ⟨⟨vh, vt, g1, g2, g3, _⟩, _, _, _, hli, htl, _⟩ := hst
        obtain ⟨Bh, ch, rfl⟩ := g2.slice
        obtain ⟨Bt, ct, rfl⟩ := g3.slice
        have c0 := blk_cell g1 0
        have c1 := blk_cell g1 1
        have c2 := blk_cell g1 2
        have c3 := blk_cell g1 3
        have c4 := blk_cell g1 4
        simp only [List.getElem?_toArray, List.getElem?_cons_zero, List.getElem?_cons_succ] at c0 c1 c2 c3 c4
        have lr := blk_lt g1
        have n1 : ¬ w.heap.size = r := by omega
        have n2 : ¬ w.heap.size + 1 = r := by omega
        have G2 := Lib.hid g2
        have G3 := Lib.hid g3
        clear hrw
        by_cases h3 : S.line < 3
        · rw [show (match (Sum.inl S : RS ⊕ Nat) with
            | .inr k => ((noSea, 4, (k : Int)) : DSea × Int × Int)
            | .inl S => if S.line < 3 then (noSea, 4, 0) else if seaOk S.sea then (S.sea, 0, 0) else (noSea, 1, 0)) = (noSea, 4, 0) from if_pos h3] at HP
          have a0 := blk_cell q2 0
          have a1 := blk_cell q2 1
          have a2 := blk_cell q2 2
          have a3 := blk_cell q2 3
          have b0 := blk_cell q3 0
          have b1 := blk_cell q3 1
          simp only [List.getElem?_toArray, List.getElem?_cons_zero, List.getElem?_cons_succ] at a0 a1 a2 a3 b0 b1
          have fa0 := blk_frozen q2 0
          have fa1 := blk_frozen q2 1
          have fa2 := blk_frozen q2 2
          have fa3 := blk_frozen q2 3
          have fb0 := blk_frozen q3 0
          have fb1 := blk_frozen q3 1
          have l2 := blk_lt q2
          have l3 := blk_lt q3
          clear q2 q3 g1 g2 g3 hpf
          go_wp2_with fail
          refine bodyPost_ret (v := .tuple #[.agg #[iv 0, iv 0, .slice none 0 0, .slice none 0 0], .agg #[iv 4, iv 0]]) (by simp [results, Tryz.results38, go_sem, *]) rfl ?_
          rw [HP.out]
          exact ⟨_, _, rfl, Own.nil _ _, Own.nil _ _, res_below hb3.out _ _ _ _ _ _⟩
        · have hlh : S.sea.hts.length ≤ 17592186044416 := by omega
          have HCS := Lib.hid (checkSea_calls S.sea _ _ wr (g2.sl (fun _ => rfl) hlh) (g3.sl (fun _ => rfl) (by omega)))
          have Q2 := Lib.hid q2
          have Q3 := Lib.hid q3
          have G1 := Lib.hid g1
          clear q2 q3 g1 g2 g3 hpf
          go_wp2_with fail
          refine HCS.out.mono ?_
          rintro e w4 ⟨rfl, hb4⟩
          have HB4 := Lib.hid (bl_step hb3.out hb4)
          have q2 := blk_below Q2.out hb4
          have q3 := blk_below Q3.out hb4
          have g1 := blk_below G1.out hb4
          have G24 := Lib.hid (G2.out.below hb4)
          have G34 := Lib.hid (G3.out.below hb4)
          have c0 := blk_cell g1 0
          have c1 := blk_cell g1 1
          have c2 := blk_cell g1 2
          have c3 := blk_cell g1 3
          have c4 := blk_cell g1 4
          simp only [List.getElem?_toArray, List.getElem?_cons_zero, List.getElem?_cons_succ] at c0 c1 c2 c3 c4
          have lr := blk_lt g1
          have a0 := blk_cell q2 0
          have a1 := blk_cell q2 1
          have a2 := blk_cell q2 2
          have a3 := blk_cell q2 3
          have b0 := blk_cell q3 0
          have b1 := blk_cell q3 1
          simp only [List.getElem?_toArray, List.getElem?_cons_zero, List.getElem?_cons_succ] at a0 a1 a2 a3 b0 b1
          have fa0 := blk_frozen q2 0
          have fa1 := blk_frozen q2 1
          have fa2 := blk_frozen q2 2
          have fa3 := blk_frozen q2 3
          have fb0 := blk_frozen q3 0
          have fb1 := blk_frozen q3 1
          have l2 := blk_lt q2
          have l3 := blk_lt q3
          clear q2 q3 g1 hb4
          cases hok : seaOk S.sea with
          | false =>
            have hes : errSea S.sea = 1 := by unfold errSea; rw [hok]; rfl
            rw [hes]
            rw [if_neg (show ¬ S.line < 3 by omega), hok, if_neg (by decide)] at HP
            clear hes hok
            go_wp2_with fail
            refine bodyPost_ret (v := .tuple #[.agg #[iv 0, iv 0, .slice none 0 0, .slice none 0 0], .agg #[iv 1, iv 0]]) (by simp [results, Tryz.results38, go_sem, *]) rfl ?_
            rw [HP.out]
            exact ⟨_, _, rfl, Own.nil _ _, Own.nil _ _, res_below HB4.out _ _ _ _ _ _⟩
          | true =>
            have hes : errSea S.sea = 0 := by unfold errSea; rw [hok]; rfl
            rw [hes]
            rw [if_neg (show ¬ S.line < 3 by omega), hok, if_pos rfl] at HP
            clear hes hok
            go_wp2_with fail
            refine bodyPost_ret (v := .tuple #[.agg #[iv S.sea.cells, iv S.sea.bands, .slice Bh S.sea.hts.length ch, .slice Bt S.sea.tds.length ct], .agg #[iv 0, iv 0]]) (by simp [results, Tryz.results38, go_sem, *]) rfl ?_
            have hrw := HRR.out
            rw [HP.out]
            exact ⟨_, _, rfl, (res_own G24.out (by omega) _ _ _ _ _ _).mono (by omega), (res_own G34.out (by omega) _ _ _ _ _ _).mono (by omega), res_below HB4.out _ _ _ _ _ _⟩
end Go.Proofs.YtjekioabkmijbaaGreatDoor
/- The chapter's sea is read. -/
set_option linter.unusedVariables false
set_option linter.unusedSimpArgs false
namespace Go.Proofs.YtjekioabkmijbaaGreatDoor
open Go.RowKit
def shoreB : ByteArray := "sea 5 2\nheights 4 4 9 4 4\ntide 1 2\ntide 0 5\ntide -1 2\ntide 0 0\n".toUTF8
def shoreSea : DSea := ⟨5, 2, [4, 4, 9, 4, 4], [⟨1, 2⟩, ⟨0, 5⟩, ⟨-1, 2⟩, ⟨0, 0⟩]⟩
set_option maxRecDepth 100000 in
theorem shore_is : parseSea shoreB = (shoreSea, 0, 0) := by decide +kernel
end Go.Proofs.YtjekioabkmijbaaGreatDoor
/- The chapter's examples, in plain Lean. -/
set_option linter.unusedVariables false
set_option linter.unusedSimpArgs false
namespace Go.Proofs.YtjekioabkmijbaaGreatDoor
open Go.RowKit
def shoreW : List DWind := [⟨1, 0, 0, 9, 0, 0, 0, 1, 0⟩, ⟨2, 3, 2, 3, 0, 1, 1, 1, 0⟩]
def shoreX : DLoss := ⟨1, 1, 1, 2, 2, 0, 0⟩
set_option maxRecDepth 100000
theorem shore_reach : reachL shoreSea shoreW 0 1 shoreX 3 = [⟨1, 0⟩, ⟨1, 1⟩, ⟨1, 2⟩, ⟨2, 0⟩] := by decide +kernel
theorem shore_beach : beachL shoreSea shoreW 3 1 shoreX 4 = [1, 2, 3] := by decide +kernel
theorem shore_land : landL shoreSea shoreW 0 1 shoreX 4 = [⟨1, 3, 4⟩, ⟨2, 2, 2⟩] := by decide +kernel
theorem shore_course : courseIs shoreSea shoreW 0 1 shoreX ⟨2, 0⟩ 4 = true := by decide +kernel
theorem shore_bar : barIs shoreSea shoreW 0 1 shoreX ⟨3, 0⟩ 4 = true := by decide +kernel
theorem shore_line : lineL shoreSea shoreW 3 1 shoreX ⟨4, 0⟩ 4 = [1] ∧ barIs shoreSea shoreW 3 1 shoreX ⟨4, 0⟩ 4 = true := by decide +kernel
theorem shore_touch : touchL shoreSea shoreW 0 3 1 shoreX 4 = [⟨1, 1⟩, ⟨1, 2⟩, ⟨3, 0⟩] := by decide +kernel
theorem shore_errs : errAsk shoreSea shoreW shoreX 1 none 3 = 0 ∧ errAsk shoreSea shoreW shoreX 1 none 4 = 0 ∧ errAsk shoreSea shoreW shoreX 1 (some ⟨2, 0⟩) 4 = 0 ∧ errAsk shoreSea shoreW shoreX 1 (some ⟨3, 0⟩) 4 = 0 ∧ errAsk shoreSea shoreW shoreX 1 (some ⟨4, 0⟩) 4 = 0 := by decide +kernel
end Go.Proofs.YtjekioabkmijbaaGreatDoor
