/- Words and numerals: need, numeral, short. -/
import Derived.Test.YtjekioabkmijbaaGreatDoorZ01
import Derived.Test.YtjekioabkmijbaaGreatDoorZ28
import Derived.Lib.SmallJoins
import Derived.Lib.AppendIntMem
import Derived.WalkLawsBesides
import Derived.Lib.AtoiAllCases
import Derived.Recover
import Derived.Test.YtjekioabkmijbaaGreatDoorZ04
import Derived.Test.YtjekioabkmijbaaGreatDoorZ21
import Derived.StringKeys
set_option linter.unusedVariables false
set_option linter.unusedSimpArgs false
namespace Go.Proofs.YtjekioabkmijbaaGreatDoor
open Go.RowKit
/-- What the library's variables hold. -/
structure Env (w : World) : Prop where
  maxlen : ∃ m, w.cell? ⟨0, 0, none⟩ = some (.int .i64 m)
  tab : Lib.TabIs Tryz.prog w "internal/strconv.uint64pow10" .u64 Lib.pow10Tab
  esyn : ∃ te pe, w.cell? ⟨2, 0, none⟩ = some (.iface te pe)
  eran : ∃ te pe, w.cell? ⟨3, 0, none⟩ = some (.iface te pe)
theorem Env.below {w w' : World} (h : Env w) (hb : Below w.heap.size w w') : Env w' := by
  have lt : ∀ {b : Nat} {v : Value}, w.cell? ⟨b, 0, none⟩ = some v → b < w.heap.size := fun h => World.block_lt_of_cell? _ _ h
  obtain ⟨⟨m, h1⟩, h2, ⟨t1, p1, h3⟩, ⟨t2, p2, h4⟩⟩ := h
  exact ⟨⟨m, (hb.cell (p := ⟨0, 0, none⟩) (lt h1)).trans h1⟩, Lib.tabBelow_of_tabIs h2 w' hb, ⟨t1, p1, (hb.cell (p := ⟨2, 0, none⟩) (lt h3)).trans h3⟩, ⟨t2, p2, (hb.cell (p := ⟨3, 0, none⟩) (lt h4)).trans h4⟩⟩
/-- Giving up. -/
def noForm : Ending := .panicked [{ v := .iface 220 (.agg #[]), recovered := false }]
theorem need_calls (b : Bool) (w : World) : Calls Tryz.prog 111 #[.bool b] w fun e w' => e = (if b then .returned (.tuple #[]) else noForm) ∧ w' = w := by
  cases b with
  | true =>
    go_enter Tryz.func111, Tryz.ntmps111
    go_wp2
    refine bodyPost_end (v := .tuple #[]) (by simp [results, Tryz.results111, go_sem]) rfl ⟨rfl, rfl⟩
  | false =>
    go_enter Tryz.func111, Tryz.ntmps111
    go_wp2
    exact ⟨rfl, rfl, rfl⟩
def numOf (s : List UInt8) : Option Int := match Lib.atoiAll s with | .ok v => if Lib.itoa v = s then some v else none | _ => none
def numE (s : List UInt8) : Ending := match numOf s with | some n => .returned (iv n) | none => noForm
theorem bytes_same {s t : ByteArray} (h : s.data.toList = t.data.toList) : s = t := by
  obtain ⟨⟨l⟩⟩ := s; obtain ⟨⟨m⟩⟩ := t; simpa using h
set_option maxHeartbeats 1000000 in
theorem numeral_calls (s : ByteArray) (w : World) (hE : Env w) (hs : s.size ≤ 1000000) : Calls Tryz.prog 114 #[.string s] w fun e w' => e = numE s.data.toList ∧ Below w.heap.size w w' := by
  by_cases hA : Lib.atoiAll s.data.toList = Lib.atoiAll []
  · obtain ⟨te, pe, he⟩ := hE.esyn
    have HC := Lib.hid (Tryz.strconv_Atoi_syntax s (by omega) hA (.iface te pe) w he (.inr ⟨te, pe, rfl⟩))
    have HN : Hid (numE s.data.toList = noForm) := by unfold Hid numE numOf; rw [hA]; rfl
    clear he hE hA
    go_enter Tryz.func114, Tryz.ntmps114
    go_wp2_with fail
    refine HC.out.mono ?_
    rintro e w1 ⟨N, rfl, hN, hb, hB1⟩
    have HB1 := Lib.hid hB1
    clear hB1 hb hN
    go_wp2_with fail
    refine (need_calls false w1).mono ?_
    rintro e w3 ⟨rfl, rfl⟩
    rw [if_neg (by decide)]
    unfold noForm
    go_wp2_with fail
    exact ⟨rfl, HN.out.symm, HB1.out⟩
  have hn0 := hA
  clear hA
  cases hA : Lib.atoiAll s.data.toList with
  | ok v =>
    have HC := Lib.hid (Tryz.strconv_Atoi_ok s (by omega) v hA w)
    have hv : -9223372036854775808 ≤ v ∧ v ≤ 9223372036854775807 := Lib.atoiAll_bounds hA
    have HN : Hid (numE s.data.toList = if Lib.itoa v = s.data.toList then .returned (iv v) else noForm) := by
      unfold Hid numE numOf; rw [hA]; dsimp only; by_cases h : Lib.itoa v = s.data.toList <;> simp [h]
    go_enter Tryz.func114, Tryz.ntmps114
    go_wp2_with fail
    refine HC.out.mono ?_
    rintro e w1 ⟨rfl, hw1⟩
    have hb1 : Below w.heap.size w w1 := by
      rcases hw1 with rfl | ⟨t, rfl⟩
      · exact Below.refl _ _
      · exact Joins.below_bytesWorld _ _ _ _ (Nat.le_refl _)
    have HE1 := Lib.hid (hE.below hb1)
    have HB1 := Lib.hid hb1
    clear hw1 hb1 HC hE hA
    go_wp2_with fail
    refine (Tryz.strconv_Itoa v hv.1 hv.2 w1 HE1.out.tab).mono ?_
    rintro e w2 ⟨rfl, kk, os, rfl⟩
    have HB2 := Lib.hid (bl_step HB1.out (Lib.below_grow w1.heap.size w1 (Nat.le_refl _) kk os))
    generalize Sort.grow (w1.drewN kk) os = w2 at HB2 ⊢
    by_cases hi : Lib.itoa v = s.data.toList
    · rw [if_pos hi] at HN
      have hi' : (⟨(Lib.itoa v).toArray⟩ : ByteArray) = s := bytes_same (by simpa using hi)
      rw [hi']
      clear hi hi'
      go_wp2_with fail
      refine (need_calls true w2).mono ?_
      rintro e w3 ⟨rfl, rfl⟩
      rw [if_pos rfl]
      go_wp2_with fail
      refine bodyPost_ret (v := iv v) (by simp [results, Tryz.results114, go_sem]) rfl ⟨HN.out.symm, HB2.out⟩
    · rw [if_neg hi] at HN
      have hi' : ¬ (⟨(Lib.itoa v).toArray⟩ : ByteArray) = s := fun h => hi (by rw [← h])
      obtain ⟨t, ht⟩ : ∃ t : ByteArray, t = ⟨(Lib.itoa v).toArray⟩ := ⟨_, rfl⟩
      rw [← ht] at hi' ⊢
      have hi2 : (t.toList == s.toList) = false := by
        rw [ByteArray.toList_eq, ByteArray.toList_eq]
        exact beq_eq_false_iff_ne.2 fun h => hi' (bytes_same h)
      clear hi ht hi'
      go_wp2_with fail
      refine (need_calls false w2).mono ?_
      rintro e w3 ⟨rfl, rfl⟩
      rw [if_neg (by decide)]
      unfold noForm
      go_wp2_with fail
      exact ⟨rfl, HN.out.symm, HB2.out⟩
  | range =>
    obtain ⟨te, pe, he⟩ := hE.eran
    have HC := Lib.hid (Tryz.strconv_Atoi_range s (by omega) hA (.iface te pe) w he (.inr ⟨te, pe, rfl⟩))
    have HN : Hid (numE s.data.toList = noForm) := by unfold Hid numE numOf; rw [hA]
    clear he hE hA
    go_enter Tryz.func114, Tryz.ntmps114
    go_wp2_with fail
    refine HC.out.mono ?_
    rintro e w1 ⟨N, rfl, hN, hb, hB1⟩
    have HB1 := Lib.hid hB1
    clear hB1 hb hN
    go_wp2_with fail
    refine (need_calls false w1).mono ?_
    rintro e w3 ⟨rfl, rfl⟩
    rw [if_neg (by decide)]
    unfold noForm
    go_wp2_with fail
    exact ⟨rfl, HN.out.symm, HB1.out⟩
  | _ => exact absurd hA hn0
def shortOk (sg : Bool) (s : List UInt8) (n : Int) : Bool := (sg || decide (0 ≤ n)) && decide ((Lib.trimPrefix s [45]).length ≤ 6)
def shortOf (sg : Bool) (s : List UInt8) : Option Int := (numOf s).bind fun n => if shortOk sg s n then some n else none
def endOf : Option Int → Ending
  | some n => .returned (iv n)
  | none => noForm
set_option maxHeartbeats 1000000 in
set_option maxRecDepth 20000 in
theorem short_calls (s : ByteArray) (sg : Bool) (w : World) (hE : Env w) (hs : s.size ≤ 1000000) : Calls Tryz.prog 187 #[.string s, .bool sg] w fun e w' => e = endOf (shortOf sg s.data.toList) ∧ Below w.heap.size w w' := by
  have HC := Lib.hid (numeral_calls s w hE hs)
  cases hN : numOf s.data.toList with
  | none =>
    have HN : Hid (endOf (shortOf sg s.data.toList) = noForm) := by unfold Hid shortOf; rw [hN]; rfl
    have HQ : Hid (numE s.data.toList = noForm) := by unfold Hid numE; rw [hN]
    clear hE hN
    go_enter Tryz.func187, Tryz.ntmps187
    go_wp2_with fail
    refine HC.out.mono ?_
    rintro e w1 ⟨rfl, hb⟩
    have HB := Lib.hid hb
    rw [HQ.out]
    clear hb
    unfold noForm
    go_wp2_with fail
    exact ⟨rfl, HN.out.symm, HB.out⟩
  | some n =>
    have HQ : Hid (numE s.data.toList = .returned (iv n)) := by unfold Hid numE; rw [hN]
    have HN : Hid (endOf (shortOf sg s.data.toList) = if shortOk sg s.data.toList n then .returned (iv n) else noForm) := by
      unfold Hid shortOf; rw [hN]; simp only [Option.bind_some]; split <;> rfl
    clear hE hN
    go_enter Tryz.func187, Tryz.ntmps187
    go_wp2_with fail
    refine HC.out.mono ?_
    rintro e w1 ⟨rfl, hb⟩
    have HB := Lib.hid hb
    rw [HQ.out]
    clear hb HQ HC
    have fin : ∀ (b : Bool), shortOk sg s.data.toList n = b → Hid (endOf (shortOf sg s.data.toList) = if b then .returned (iv n) else noForm) := fun b hb => by rw [← hb]; exact HN.out
    cases hsg : (sg || decide (0 ≤ n)) with
    | false =>
      have HF := fin false (by unfold shortOk; rw [hsg]; rfl)
      obtain ⟨rfl, hn⟩ : sg = false ∧ ¬ 0 ≤ n := by simpa using hsg
      clear fin HN hsg
      go_wp2_with fail
      refine (need_calls false w1).mono ?_
      rintro e w3 ⟨rfl, rfl⟩
      rw [if_neg (by decide)]
      unfold noForm
      go_wp2_with fail
      exact ⟨rfl, HF.out.symm, HB.out⟩
    | true =>
      have hsh : shortOk sg s.data.toList n = decide ((Lib.trimPrefix s.data.toList [45]).length ≤ 6) := by unfold shortOk; rw [hsg]; simp
      cases sg with
      | true =>
        go_wp2_with fail
        refine (Tryz.strings_TrimPrefix s ⟨#[45]⟩ w1).mono ?_
        rintro e w2 ⟨rfl, rfl⟩
        obtain ⟨t, ht⟩ : ∃ t : ByteArray, t = ⟨(Lib.trimPrefix s.data.toList (ByteArray.mk #[45]).data.toList).toArray⟩ := ⟨_, rfl⟩
        have hts : t.size = (Lib.trimPrefix s.data.toList [45]).length := by rw [ht]; simp [ByteArray.size]
        rw [← ht]
        rw [← hts] at hsh
        clear ht hts
        by_cases h6 : t.size ≤ 6
        · have HF := fin true (by rw [hsh]; simpa using h6)
          have h6' : (t.size : Int) ≤ 6 := by omega
          clear fin HN hsg hsh h6
          go_wp2_with fail
          refine (need_calls true w2).mono ?_
          rintro e w3 ⟨rfl, rfl⟩
          rw [if_pos rfl]
          go_wp2_with fail
          refine bodyPost_ret (v := iv n) (by simp [results, Tryz.results187, go_sem]) rfl ⟨HF.out.symm, HB.out⟩
        · have HF := fin false (by rw [hsh]; simpa using h6)
          have h6' : ¬ (t.size : Int) ≤ 6 := by omega
          clear fin HN hsg hsh h6
          go_wp2_with fail
          refine (need_calls (decide ((t.size : Int) ≤ 6)) w2).mono ?_
          rintro e w3 ⟨rfl, rfl⟩
          rw [if_neg (by simpa using h6')]
          unfold noForm
          go_wp2_with fail
          exact ⟨rfl, HF.out.symm, HB.out⟩
      | false =>
        have hn : 0 ≤ n := by simpa using hsg
        go_wp2_with fail
        refine (Tryz.strings_TrimPrefix s ⟨#[45]⟩ w1).mono ?_
        rintro e w2 ⟨rfl, rfl⟩
        obtain ⟨t, ht⟩ : ∃ t : ByteArray, t = ⟨(Lib.trimPrefix s.data.toList (ByteArray.mk #[45]).data.toList).toArray⟩ := ⟨_, rfl⟩
        have hts : t.size = (Lib.trimPrefix s.data.toList [45]).length := by rw [ht]; simp [ByteArray.size]
        rw [← ht]
        rw [← hts] at hsh
        clear ht hts
        by_cases h6 : t.size ≤ 6
        · have HF := fin true (by rw [hsh]; simpa using h6)
          have h6' : (t.size : Int) ≤ 6 := by omega
          clear fin HN hsg hsh h6
          go_wp2_with fail
          refine (need_calls true w2).mono ?_
          rintro e w3 ⟨rfl, rfl⟩
          rw [if_pos rfl]
          go_wp2_with fail
          refine bodyPost_ret (v := iv n) (by simp [results, Tryz.results187, go_sem]) rfl ⟨HF.out.symm, HB.out⟩
        · have HF := fin false (by rw [hsh]; simpa using h6)
          have h6' : ¬ (t.size : Int) ≤ 6 := by omega
          clear fin HN hsg hsh h6
          go_wp2_with fail
          refine (need_calls (decide ((t.size : Int) ≤ 6)) w2).mono ?_
          rintro e w3 ⟨rfl, rfl⟩
          rw [if_neg (by simpa using h6')]
          unfold noForm
          go_wp2_with fail
          exact ⟨rfl, HF.out.symm, HB.out⟩
end Go.Proofs.YtjekioabkmijbaaGreatDoor
/- mapped: of words, their numbers; giving up is caught. -/
set_option linter.unusedVariables false
set_option linter.unusedSimpArgs false
namespace Go.Proofs.YtjekioabkmijbaaGreatDoor
open Go.RowKit
theorem mapM_yes {α β : Type} (g : α → Option β) (l : List α) {k : Nat} {x : α} {ys : List β} {y : β} (hx : l[k]? = some x) (h : (l.take k).mapM g = some ys) (hy : g x = some y) : (l.take (k + 1)).mapM g = some (ys ++ [y]) := by
  rw [List.take_add_one, hx, List.mapM_append, h]
  simp [hy]
theorem mapM_no {α β : Type} (g : α → Option β) : ∀ (l : List α) {k : Nat} {x : α}, l[k]? = some x → g x = none → l.mapM g = none
  | [], k, x, h, _ => by simp at h
  | a :: l, 0, x, h, hy => by
    simp at h; subst h; simp [hy]
  | a :: l, k + 1, x, h, hy => by
    have := mapM_no g l (k := k) (by simpa using h) hy
    simp [this]
def MapPost (base : Nat) (r : Option (List Int)) (w : World) (e : Ending) (w' : World) : Prop :=
  Below w.heap.size w w' ∧ ((∃ ys v, r = some ys ∧ e = .returned v ∧ Own intCs 1 3 base w' v ys) ∨ (r = none ∧ e = noForm))
set_option maxHeartbeats 2000000 in
set_option maxRecDepth 20000 in
theorem mapped112_calls (gf : Nat) (g : ByteArray → Option Int) (xs : List ByteArray) (v : Value) (w : World) (hent : ∀ args w, (callFunc gf args).run Tryz.prog w = .ok (.enter gf args) w) (hs : Sl strCs 1 w v xs) (hl : xs.length ≤ 1000000)
    (hf : ∀ s ∈ xs, ∀ W, Below w.heap.size w W → Calls Tryz.prog gf #[.string s] W fun e w' => e = endOf (g s) ∧ Below W.heap.size W w') :
    Calls Tryz.prog 112 #[v, .func (.func gf) #[] #[]] w fun e w' => MapPost w.heap.size (xs.mapM g) w e w' := by
  obtain ⟨A, c, rfl, hc, _⟩ := hs.open_
  have HS := Lib.hid hs
  have HF := Lib.hid hf
  clear hs hf
  go_enter Tryz.func112, Tryz.ntmps112
  go_wp2
  go_loopg [5, 10] xs.length (fun n u i wr => ∃ k : Nat, k ≤ xs.length ∧ n = xs.length - k ∧ i = .int .i64 k ∧ (∃ ys, Hid ((xs.take k).mapM g = some ys ∧ ys.length = k ∧ Own intCs 1 3 w.heap.size wr u ys)) ∧ Hid (Below w.heap.size w wr))
  case atStart => exact ⟨0, by omega, by omega, rfl, ⟨[], by simp, rfl, Own.nil _ _⟩, Below.refl _ _⟩
  case round =>
    obtain ⟨k, hk, hn, rfl, ⟨ys, HO⟩, HB⟩ := hrel
    by_cases hlt : k < xs.length
    · have hx : xs[k]? = some xs[k] := List.getElem?_eq_getElem hlt
      obtain ⟨x, hxe⟩ : ∃ x, x = xs[k] := ⟨_, rfl⟩
      rw [← hxe] at hx
      have HFX := Lib.hid (HF.out x (by rw [hxe]; exact List.getElem_mem _))
      clear hxe
      obtain ⟨b, o, rfl, d0⟩ := (HS.out.below HB.out).str k _ hx
      have HX := Lib.hid hx
      have hyl := HO.out.2.1
      clear hx
      have HC := Lib.hid (HFX.out _ HB.out)
      go_wp2_with fail
      refine HC.out.mono ?_
      rintro e w2 ⟨rfl, hb2⟩
      have HO2 := Lib.hid (HO.out.2.2.below hb2)
      have HB2 := Lib.hid (bl_step HB.out hb2)
      have hsz := HB2.out.size
      clear hb2 d0
      cases hg : g x with
      | none =>
        have HM : Hid (xs.mapM g = none) := mapM_no g xs HX.out hg
        clear hg
        unfold endOf noForm
        go_wp2_with fail
        exact ⟨rfl, HB2.out, .inr ⟨HM.out, rfl⟩⟩
      | some y =>
        have HM : Hid ((xs.take (k + 1)).mapM g = some (ys ++ [y])) := mapM_yes g xs HX.out HO.out.1 hg
        clear hg
        unfold endOf
        go_wp2_with (at_builtin; refine wp_push (cs := intCs) (base := w.heap.size) rfl _ _ _ rfl (.int .i64 0) 8 Tryz.underlying22 info3 rfl (by decide) u5 ys y rfl (HO2.out.alloc _) w2.heap.size 1 1 rfl rfl (0, 0) 3 (blk_new _ _) rfl (by intro u hu; simp [intCs] at hu; subst hu; rfl) (by omega) (by decide) (by simp; omega) ?_; intro v' W4 hown' hgrow; have HO4 := Lib.hid hown'; have HB4 := Lib.hid (bl_push (bl_alloc HB2.out _) (HO2.out.alloc _) hgrow (Nat.le_refl _) (by simp; omega)); clear hown' hgrow)
        go_roundg (xs.length - (k + 1))
        case measure => omega
        case rel => exact ⟨k + 1, by omega, rfl, by go_num, ⟨ys ++ [y], HM.out, by simp [hyl], HO4.out⟩, HB4.out⟩
    · obtain rfl : k = xs.length := by omega
      go_wp2
      have hm := HO.out.1
      rw [List.take_length] at hm
      refine bodyPost_ret (v := u5) (by simp [results, Tryz.results112, go_sem]) rfl ⟨HB.out, .inl ⟨ys, _, hm, rfl, HO.out.2.2⟩⟩
theorem c189_calls (s : ByteArray) (w : World) (hE : Env w) (hs : s.size ≤ 1000000) : Calls Tryz.prog 189 #[.string s] w fun e w' => e = endOf (shortOf false s.data.toList) ∧ Below w.heap.size w w' := by
  have HC := Lib.hid (short_calls s false w hE hs)
  clear hE
  go_enter Tryz.func189, Tryz.ntmps189
  go_wp2_with fail
  refine HC.out.mono ?_
  rintro e w1 ⟨rfl, hb⟩
  have HB := Lib.hid hb
  clear hb
  cases hN : shortOf false s.data.toList with
  | none =>
    unfold endOf noForm
    go_wp2_with fail
    exact ⟨rfl, by first | rfl | (rw [hN]; rfl), HB.out⟩
  | some n =>
    unfold endOf
    go_wp2_with fail
    refine bodyPost_ret (v := iv n) (by simp [results, Tryz.results189, go_sem]) rfl ⟨by first | rfl | (rw [hN]; rfl), HB.out⟩
theorem caught_idle (b : Nat) (w : World) :
    CallsD Tryz.prog 110 #[.pointer (some ⟨b, 0, none⟩)] .returning w fun e u' w' => e = .returned (.tuple #[]) ∧ u' = .returning ∧ w' = w := by
  refine callsD_of_wpS Tryz.func110 rfl fun c₀ cs hu => ?_
  apply wpS_seq
  apply wpS_region
  simp [wpOpsS, go_sem, recoverD, hu, Tryz.ntmps110, Exit.thenS]
  refine wpS_of_wp ?_
  go_wp2
  cases c₀
  simp_all [bodyPostS, results, Tryz.results110]
theorem assert220 (w : World) : (Instr.typeAssert (.iface 220 (.agg #[])) 20 220 true).run Tryz.prog w = .ok (.tuple #[.agg #[], .bool true]) w := by
  simp [Instr.typeAssert, run_underlying Tryz.underlying220, go_sem, Result.andThen]
/-- What caught leaves behind, where the body has given up. -/
def CaughtPost (b : Nat) (w : World) (e : Ending) (u' : FrameMode) (w' : World) : Prop :=
  e = .returned (.tuple #[]) ∧ u' = .panicking [{ v := .iface 220 (.agg #[]), recovered := true }] ∧ w'.heap[b]? = some (.cells #[iv 4] 35 (0, 0)) ∧ Fix (fun c => c ≠ b) w w'
set_option maxRecDepth 20000 in
theorem caught_panicking (b : Nat) (x : Value) (w : World) (hb : w.heap[b]? = some (.cells #[x] 35 (0, 0))) :
    CallsD Tryz.prog 110 #[.pointer (some ⟨b, 0, none⟩)] (.panicking [{ v := .iface 220 (.agg #[]), recovered := false }]) w fun e u' w' => CaughtPost b w e u' w' := by
  have c0 := blk_cell hb 0
  have f0 := blk_frozen hb 0
  simp only [List.getElem?_toArray, List.getElem?_cons_zero] at c0
  have l0 := blk_lt hb
  have HB := Lib.hid hb
  clear hb
  refine callsD_of_wpS Tryz.func110 rfl fun c₀ cs hu => ?_
  apply wpS_seq
  apply wpS_region
  simp [wpOpsS, go_sem, recoverD, hu, Tryz.ntmps110, Exit.thenS]
  simp only [List.size_toArray, List.length_cons, List.length_nil, Nat.reduceAdd, Nat.reduceSub, Array.replicate_succ, Array.replicate_zero, List.push_toArray, List.append_toArray, List.nil_append, List.cons_append, List.setIfInBounds_toArray, List.set_cons_zero, List.set_cons_succ]
  have hta := assert220
  refine wpS_of_wp ?_
  go_wp2
  have hpost : CaughtPost b w (.returned (.tuple #[])) (.panicking [{ v := .iface 220 (.agg #[]), recovered := true }]) ((w.setCell { block := b, off := 0 } (Value.int IntKind.i64 4)).alloc (Obj.cells #[] 220)) :=
    ⟨rfl, rfl, blk_alloc (by have := blk_set HB.out 0 (iv 4); simpa using this) _, ((Fix.refl _ _).setCell (fun _ h => h rfl) _).alloc _⟩
  cases c₀
  simp_all [bodyPostS, results, Tryz.results110]
end Go.Proofs.YtjekioabkmijbaaGreatDoor
/- forms: how the first words of lines are read. -/
set_option linter.unusedVariables false
set_option linter.unusedSimpArgs false
namespace Go.Proofs.YtjekioabkmijbaaGreatDoor
open Go.RowKit Go.Maps
theorem zero202 (w : World) : (zeroValue 202).run Tryz.prog w = .ok .nilFunc w := by kernel_rfl
theorem keyed9 : Keyed Tryz.prog 9 := string_keyed Tryz.underlying9
theorem keyOf9 (s : ByteArray) (h : s.size ≤ maxLen) : keyOf Tryz.prog 9 (.string s) = some (.string s.data.toList) := WideMaps.keyOf_string_mk Tryz.underlying9 h
def wSea : List UInt8 := [115, 101, 97]
def wHeights : List UInt8 := [104, 101, 105, 103, 104, 116, 115]
def wTide : List UInt8 := [116, 105, 100, 101]
/-- Which function reads the lines with this first word. -/
def formOf (s : List UInt8) : Option Nat := if s = wTide then some 190 else if s = wHeights then some 188 else if s = wSea then some 186 else none
def formV (o : Option Nat) : Value := o.elim .nilFunc (fun f => .func (.func f) #[] #[])
def FormsMap (b : Nat) (w : World) : Prop := ∃ D, w.ownsMap Tryz.prog 9 landR b 3 D ∧ ∀ s : List UInt8, Maps.has D (.string s) = (formOf s).isSome ∧ D.atKey (.string s) (.held .nilFunc) = .held (formV (formOf s))
theorem FormsMap.below {b : Nat} {w w' : World} (h : FormsMap b w) (hb : Below w.heap.size w w') : FormsMap b w' := by
  obtain ⟨D, h1, h2⟩ := h
  exact ⟨D, h1.kept (row := none) ⟨hb.os, hb.tape, hb.output, hb.size, fun i hi _ => hb.block i hi⟩ (by simp), h2⟩
theorem FormsMap.look {b : Nat} {w : World} (h : FormsMap b w) (s : ByteArray) (hs : s.size ≤ maxLen) : (Instr.lookup 204 (.map (some b)) (.string s) true).run Tryz.prog w = .ok (.tuple #[formV (formOf s.data.toList), .bool (formOf s.data.toList).isSome]) w := by
  obtain ⟨D, hm, hD⟩ := h
  obtain ⟨v, ps, hrun, hv⟩ := hm.look_ok (t := 204) (e := 202) keyed9 Tryz.underlying204 (z := .nilFunc) (zero202 w) (zd := .held .nilFunc) (zp := []) rfl (keyOf9 s hs)
  rw [(hD s.data.toList).2] at hv
  simp only [landR, Option.some.injEq, Prod.mk.injEq, DataW.held.injEq] at hv
  rw [hrun, hv.1, (hD s.data.toList).1]
def formsD : DataW Value := (((DataW.map []).put (.string wSea) (.held (formV (some 186)))).put (.string wHeights) (.held (formV (some 188)))).put (.string wTide) (.held (formV (some 190)))
theorem formsD_at (s : List UInt8) : Maps.has formsD (.string s) = (formOf s).isSome ∧ formsD.atKey (.string s) (.held .nilFunc) = .held (formV (formOf s)) := by
  have m0 : IsMap (DataW.map [] : DataW Value) := isMap_empty
  have m1 := m0.put (.string wSea) (.held (formV (some 186)))
  have m2 := m1.put (.string wHeights) (.held (formV (some 188)))
  unfold formsD formOf
  by_cases h3 : s = wTide
  · subst h3
    rw [has_put_same m2 (by trivial), atKey_put_same m2 (by trivial)]; simp
  · have n3 : (Lit.string s) ≠ .string wTide := fun h => h3 (by cases h; rfl)
    rw [has_put_other n3, atKey_put_other n3, if_neg h3]
    by_cases h2 : s = wHeights
    · subst h2
      rw [has_put_same m1 (by trivial), atKey_put_same m1 (by trivial)]; simp
    · have n2 : (Lit.string s) ≠ .string wHeights := fun h => h2 (by cases h; rfl)
      rw [has_put_other n2, atKey_put_other n2, if_neg h2]
      by_cases h1 : s = wSea
      · subst h1
        rw [has_put_same m0 (by trivial), atKey_put_same m0 (by trivial)]; simp
      · have n1 : (Lit.string s) ≠ .string wSea := fun h => h1 (by cases h; rfl)
        rw [has_put_other n1, atKey_put_other n1, if_neg h1]
        exact ⟨rfl, rfl⟩
theorem forms_worlds (w : World) : ∃ w1 w2 w3, (Instr.mapUpdate 204 (.map (some w.heap.size)) (.string ⟨#[115, 101, 97]⟩) (.func (.func 186) #[] #[])).run Tryz.prog (w.alloc (.map #[] 0)) = .ok () w1 ∧
    (Instr.mapUpdate 204 (.map (some w.heap.size)) (.string ⟨#[104, 101, 105, 103, 104, 116, 115]⟩) (.func (.func 188) #[] #[])).run Tryz.prog w1 = .ok () w2 ∧
    (Instr.mapUpdate 204 (.map (some w.heap.size)) (.string ⟨#[116, 105, 100, 101]⟩) (.func (.func 190) #[] #[])).run Tryz.prog w2 = .ok () w3 ∧ FormsMap w.heap.size w3 ∧ Below w.heap.size w w3 := by
  have hm := World.ownsMap_made w Tryz.prog 9 landR
  obtain ⟨w1, r1, h1, g1⟩ := hm.update (t := 204) (e := 202) keyed9 Tryz.underlying204 (by decide) (keyOf9 ⟨#[115, 101, 97]⟩ (by decide)) (val := .func (.func 186) #[] #[]) (d := .held (formV (some 186))) (ps := []) rfl
  obtain ⟨w2, r2, h2, g2⟩ := h1.update (t := 204) (e := 202) keyed9 Tryz.underlying204 (by decide) (keyOf9 ⟨#[104, 101, 105, 103, 104, 116, 115]⟩ (by decide)) (val := .func (.func 188) #[] #[]) (d := .held (formV (some 188))) (ps := []) rfl
  obtain ⟨w3, r3, h3, g3⟩ := h2.update (t := 204) (e := 202) keyed9 Tryz.underlying204 (by decide) (keyOf9 ⟨#[116, 105, 100, 101]⟩ (by decide)) (val := .func (.func 190) #[] #[]) (d := .held (formV (some 190))) (ps := []) rfl
  have s1 := g1.size; have s2 := g2.size; have s3 := g3.size
  have hb : Below w.heap.size w (w.alloc (.map #[] 0)) := bl_alloc (Below.refl _ _) _
  have b1 := hb.grown g1 (by simp) (fun b hb => by cases hb; omega)
  have b2 := b1.grown g2 (by simp at s1; omega) (fun b hb => by cases hb; omega)
  have b3 := b2.grown g3 (by simp at s1; omega) (fun b hb => by cases hb; omega)
  exact ⟨w1, w2, w3, r1, r2, r3, ⟨_, h3, formsD_at⟩, b3⟩
theorem forms_calls (w : World) : Calls Tryz.prog 158 #[] w fun e w' => e = .returned (.map (some w.heap.size)) ∧ FormsMap w.heap.size w' ∧ Below w.heap.size w w' := by
  have hmk : ∀ w, (Instr.makeMap 204 none).run Tryz.prog w = .ok (.map (some w.heap.size)) (w.alloc (.map #[] 0)) := fun w => run_makeMap _ _
  obtain ⟨w1, w2, w3, r1, r2, r3, hF, hB⟩ := forms_worlds w
  have HF := Lib.hid hF
  have HB := Lib.hid hB
  clear hF hB
  go_enter Tryz.func158, Tryz.ntmps158
  go_wp2
  refine bodyPost_ret (v := .map (some w.heap.size)) (by simp [results, Tryz.results158, go_sem]) rfl ⟨rfl, HF.out, HB.out⟩
end Go.Proofs.YtjekioabkmijbaaGreatDoor
