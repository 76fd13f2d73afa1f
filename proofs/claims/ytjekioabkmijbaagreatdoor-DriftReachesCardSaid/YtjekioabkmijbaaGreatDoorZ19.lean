/- asked, in two: without an error, and with one. -/
import Derived.Test.YtjekioabkmijbaaGreatDoorZ18
import Derived.Test.YtjekioabkmijbaaGreatDoorZ17
set_option linter.unusedVariables false
set_option linter.unusedSimpArgs false
namespace Go.Proofs.YtjekioabkmijbaaGreatDoor
open Go.RowKit
theorem counting_winds {l : List DWind} (known : Int) (h : (errLog l).2 = 0) : windsOk (counting l known) := by
  have hw := log_winds h
  have hl := log_len h
  refine ⟨Nat.le_trans (List.length_filter_le _ _) (by omega), fun x hx => ?_⟩
  obtain ⟨hm, hc⟩ := List.mem_filter.1 hx
  have hk := hw x hm
  unfold counts at hc
  simp only [Bool.and_eq_true, beq_iff_eq] at hc
  unfold windOk at hk
  rw [if_pos hc.1.1] at hk
  simp only [Bool.and_eq_true] at hk
  unfold gustOk at hk
  simp only [Bool.and_eq_true] at hk
  exact ⟨hk.2.1.2, hk.2.2⟩
/-- What stands behind a question without an error. -/
structure AskFacts (s : DSea) (l : List DWind) (x : DLoss) (f h : Int) : Prop where
  sea : seaOk s = true
  log : (errLog l).2 = 0
  loss : lossOk s x = true
  float : f = 1 ∨ f = 2
  hour : 0 ≤ h ∧ h ≤ 1000000
  near : x.hl ≤ h ∧ h ≤ x.hl + 200
theorem ask_facts {s : DSea} {l : List DWind} {x : DLoss} {f h : Int} {p : Option DPlace} (he : errAsk s l x f p h = 0) : AskFacts s l x f h := by
  unfold errAsk at he
  obtain ⟨h1, h2⟩ := orE_zero he
  obtain ⟨h2, h3⟩ := orE_zero h2
  obtain ⟨a, b, c, d⟩ := sail_parts h1
  refine ⟨a, b, c, d, ?_, ?_⟩
  · by_cases hh : 0 ≤ h ∧ h ≤ 1000000
    · exact hh
    · have : errHour h = 1 := if_neg hh
      unfold errFar at h3
      rw [this] at h3
      simp at h3
  · unfold errFar at h3
    split at h3
    · split at h3
      · assumption
      · simp at h3
    · simp at h3
theorem ask_place {s : DSea} {l : List DWind} {x : DLoss} {f h : Int} {p : DPlace} (he : errAsk s l x f (some p) h = 0) : placeOk s p = true := by
  unfold errAsk at he
  obtain ⟨h1, h2⟩ := orE_zero he
  obtain ⟨h2, h3⟩ := orE_zero h2
  simp only [errPlace] at h2
  split at h2
  · assumption
  · simp at h2
def AskOk (s : DSea) (l : List DWind) (known f : Int) (vh vt : Value) (w : World) (e : Ending) (w' : World) : Prop :=
  ∃ A n c, e = .returned (.tuple #[.agg #[iv s.cells, iv s.bands, vh, vt, .slice A n c, iv f], iv 0]) ∧ Sky s (counting l known) f vh vt (.slice A n c) w' ∧ Below w.heap.size w w'
def AskBad (er : Int) (w : World) (e : Ending) (w' : World) : Prop :=
  ∃ q0 q1 A2 n2 c2 A3 n3 c3 A4 n4 c4 q5, e = .returned (.tuple #[.agg #[iv q0, iv q1, .slice A2 n2 c2, .slice A3 n3 c3, .slice A4 n4 c4, iv q5], iv er]) ∧ Below w.heap.size w w'
theorem askPost_ok {s : DSea} {l : List DWind} {x : DLoss} {known f h : Int} {vh vt : Value} {w w' : World} {e : Ending} {p : Option DPlace} (he : errAsk s l x f p h = 0) (h1 : Sl intCs 1 w vh s.hts) (h2 : Sl DTide.cs 2 w vt s.tds)
    (hp : AskPost s l known f vh vt (errAsk s l x f p h) w e w') : AskOk s l known f vh vt w e w' := by
  obtain ⟨q0, q1, A2, n2, c2, A3, n3, c3, A4, n4, c4, q5, rfl, hq, hb⟩ := hp
  obtain ⟨e1, ho⟩ := hq he
  have F := ask_facts he
  refine ⟨A4, n4, c4, ?_, ⟨F.sea, counting_winds known F.log, F.float, h1.below hb, h2.below hb, ho.sl (fun _ => rfl) ?_⟩, hb⟩
  · rw [e1, he]; rfl
  · have := (counting_winds known F.log).1; omega
theorem askPost_bad {s : DSea} {l : List DWind} {known f er : Int} {vh vt : Value} {w w' : World} {e : Ending} (hp : AskPost s l known f vh vt er w e w') : AskBad er w e w' := by
  obtain ⟨q0, q1, A2, n2, c2, A3, n3, c3, A4, n4, c4, q5, rfl, hq, hb⟩ := hp
  exact ⟨_, _, _, _, _, _, _, _, _, _, _, _, rfl, hb⟩
theorem asked_ok (s : DSea) (l : List DWind) (x : DLoss) (known f h : Int) (vh vt vl : Value) (w : World) (hf : 0 ≤ f ∧ f ≤ 255) (h1 : Sl intCs 1 w vh s.hts) (h2 : Sl DTide.cs 2 w vt s.tds) (h3 : Sl DWind.cs 9 w vl l) (he : errAsk s l x f none h = 0) :
    Calls Tryz.prog 76 #[.agg #[iv s.cells, iv s.bands, vh, vt], vl, iv known, lossV x, .int .u8 f, .pointer none, iv h] w fun e w' => AskOk s l known f vh vt w e w' :=
  (asked_none s l x known f h vh vt vl w hf h1 h2 h3).mono fun _ _ hp => askPost_ok he h1 h2 hp
theorem asked_bad (s : DSea) (l : List DWind) (x : DLoss) (known f h : Int) (vh vt vl : Value) (w : World) (hf : 0 ≤ f ∧ f ≤ 255) (h1 : Sl intCs 1 w vh s.hts) (h2 : Sl DTide.cs 2 w vt s.tds) (h3 : Sl DWind.cs 9 w vl l) :
    Calls Tryz.prog 76 #[.agg #[iv s.cells, iv s.bands, vh, vt], vl, iv known, lossV x, .int .u8 f, .pointer none, iv h] w fun e w' => AskBad (errAsk s l x f none h) w e w' :=
  (asked_none s l x known f h vh vt vl w hf h1 h2 h3).mono fun _ _ hp => askPost_bad hp
theorem askedP_ok (s : DSea) (l : List DWind) (x : DLoss) (p : DPlace) (known f h : Int) (vh vt vl : Value) (b : Nat) (w : World) (hf : 0 ≤ f ∧ f ≤ 255) (h1 : Sl intCs 1 w vh s.hts) (h2 : Sl DTide.cs 2 w vt s.tds) (h3 : Sl DWind.cs 9 w vl l) (hp : w.heap[b]? = some (.cells #[iv p.c, iv p.b] 48 (0, 0))) (he : errAsk s l x f (some p) h = 0) :
    Calls Tryz.prog 76 #[.agg #[iv s.cells, iv s.bands, vh, vt], vl, iv known, lossV x, .int .u8 f, .pointer (some ⟨b, 0, none⟩), iv h] w fun e w' => AskOk s l known f vh vt w e w' :=
  (asked_some s l x p known f h vh vt vl b w hf h1 h2 h3 hp).mono fun _ _ hp => askPost_ok he h1 h2 hp
theorem askedP_bad (s : DSea) (l : List DWind) (x : DLoss) (p : DPlace) (known f h : Int) (vh vt vl : Value) (b : Nat) (w : World) (hf : 0 ≤ f ∧ f ≤ 255) (h1 : Sl intCs 1 w vh s.hts) (h2 : Sl DTide.cs 2 w vt s.tds) (h3 : Sl DWind.cs 9 w vl l) (hp : w.heap[b]? = some (.cells #[iv p.c, iv p.b] 48 (0, 0))) :
    Calls Tryz.prog 76 #[.agg #[iv s.cells, iv s.bands, vh, vt], vl, iv known, lossV x, .int .u8 f, .pointer (some ⟨b, 0, none⟩), iv h] w fun e w' => AskBad (errAsk s l x f (some p) h) w e w' :=
  (asked_some s l x p known f h vh vt vl b w hf h1 h2 h3 hp).mono fun _ _ hp => askPost_bad hp
end Go.Proofs.YtjekioabkmijbaaGreatDoor
/- Reach, Beaches. -/
set_option linter.unusedVariables false
set_option linter.unusedSimpArgs false
namespace Go.Proofs.YtjekioabkmijbaaGreatDoor
open Go.RowKit Go.Shelf
attribute [local go_sem] Oper.semAt_some
def reachL (s : DSea) (l : List DWind) (known f : Int) (x : DLoss) (h : Int) : List DPlace := if errAsk s l x f none h = 0 then placesOf (reachM s (counting l known) f x h) else []
set_option maxHeartbeats 1000000 in
set_option maxRecDepth 20000 in
theorem reach_calls (s : DSea) (l : List DWind) (x : DLoss) (known f h : Int) (vh vt vl : Value) (w : World) (hf : 0 ≤ f ∧ f ≤ 255) (h1 : Sl intCs 1 w vh s.hts) (h2 : Sl DTide.cs 2 w vt s.tds) (h3 : Sl DWind.cs 9 w vl l) :
    Calls Tryz.prog 22 #[.agg #[iv s.cells, iv s.bands, vh, vt], vl, iv known, lossV x, .int .u8 f, iv h] w fun e w' =>
      ∃ v, e = .returned (.tuple #[v, iv (errAsk s l x f none h)]) ∧ Own DPlace.cs 2 48 w.heap.size w' v (reachL s l known f x h) ∧ Below w.heap.size w w' := by
  obtain ⟨A1, k1, rfl, hk1, hlk1⟩ := h1.open_
  obtain ⟨A2, k2, rfl, hk2, hlk2⟩ := h2.open_
  have hbW := bl_alloc (bl_alloc (Below.refl w.heap.size w) (.cells #[iv s.cells, iv s.bands, .slice A1 s.hts.length k1, .slice A2 s.tds.length k2] 25)) (.cells (lossA x) 30)
  have HBW := Lib.hid hbW
  by_cases he : errAsk s l x f none h = 0
  · have HC := Lib.hid (asked_ok s l x known f h _ _ vl _ hf (h1.below hbW) (h2.below hbW) (h3.below hbW) he)
    have HF := Lib.hid (ask_facts he)
    have HR : Hid (reachL s l known f x h = placesOf (reachM s (counting l known) f x h)) := if_pos he
    have HE := Lib.hid he
    clear he h1 h2 h3 hbW
    go_enter Tryz.func22, Tryz.ntmps22
    go_wp2_with fail
    refine HC.out.mono ?_
    rintro e w1 ⟨A3, n3, c3, rfl, hk, hb1⟩
    have HK := Lib.hid hk
    have G1 := Lib.hid (blk_below (blk_at (w := w.alloc (.cells #[iv s.cells, iv s.bands, .slice A1 s.hts.length k1, .slice A2 s.tds.length k2] 25)) (.cells (lossA x) 30) (show w.heap.size + 1 = _ by simp)) hb1)
    have HB1 := Lib.hid (bl_step HBW.out hb1)
    obtain ⟨d0, d1, d2, d3, d4, d5, d6⟩ := loss_cells G1.out
    have l1 := blk_lt G1.out
    clear hk hb1
    go_wp2_with fail
    refine calls_abs (fun W2 hW2 => ?_)
    have hb2 : Below w1.heap.size w1 W2 := by rw [hW2]; exact bl_alloc (Below.refl _ _) _
    clear hW2
    refine (last_calls s _ f _ _ _ x h W2 (HK.out.below hb2) HF.out.loss HF.out.hour.2 HF.out.near.1).mono ?_
    rintro e w3 ⟨rfl, hb3⟩
    have HB3 := Lib.hid (bl_step (bl_step HB1.out hb2) hb3)
    clear hb2 hb3 d0 d1 d2 d3 d4 d5 d6
    go_wp2_with fail
    refine (list_calls _ _).mono ?_
    rintro e w4 ⟨v, rfl, ho, hb4⟩
    have HB4 := Lib.hid (bl_step HB3.out hb4)
    have HO := Lib.hid ho
    clear ho hb4
    go_wp2_with fail
    refine bodyPost_ret (v := .tuple #[v, iv (errAsk s l x f none h)]) (by rw [HE.out]; simp [results, Tryz.results22, go_sem]) rfl ⟨v, rfl, ?_, HB4.out⟩
    rw [HR.out]
    exact HO.out.mono HB3.out.size
  · have HC := Lib.hid (asked_bad s l x known f h _ _ vl _ hf (h1.below hbW) (h2.below hbW) (h3.below hbW))
    have HR : Hid (reachL s l known f x h = []) := if_neg he
    obtain ⟨er, her⟩ : ∃ q, q = errAsk s l x f none h := ⟨_, rfl⟩
    rw [← her] at he HC ⊢
    have h0' : (er != 0) = true := by simp [bne, he]
    clear he h1 h2 h3 hbW her
    go_enter Tryz.func22, Tryz.ntmps22
    go_wp2_with fail
    refine HC.out.mono ?_
    rintro e w1 ⟨q0, q1, B2, n2, c2, B3, n3, c3, B4, n4, c4, q5, rfl, hb1⟩
    have HB1 := Lib.hid (bl_step HBW.out hb1)
    clear hb1
    go_wp2_with fail
    refine bodyPost_ret (v := .tuple #[.slice none 0 0, iv er]) (by simp [results, Tryz.results22, go_sem]) rfl ⟨_, rfl, ?_, bl_alloc HB1.out _⟩
    rw [HR.out]
    exact Own.nil _ _
end Go.Proofs.YtjekioabkmijbaaGreatDoor
/- Beaches. -/
set_option linter.unusedVariables false
set_option linter.unusedSimpArgs false
namespace Go.Proofs.YtjekioabkmijbaaGreatDoor
open Go.RowKit Go.Shelf
attribute [local go_sem] Oper.semAt_some
theorem wpIn_push2 {F : Fence} {n : Nat} {α : Type} {cs : α → List Value} {k e base : Nat} {P : Program} {w : World} {ops : Array Oper} {rest : List Oper} {o : Oper} {a : Act} {Q : Exit → Act → World → Prop} (hgd : o.guard = none) (s x : Operand) (t : TypeId)
    (ho : o.op = .call { callee := .builtin .append, args := #[s, x], argTypes := #[t, t] }) (z : Value) (bytes : Nat) (ht : P.underlying t = some (.slice e))
    (hinfo : (P.info? e).map (fun i => (i.zero, i.size, i.bytes)) = some (some z, k, bytes)) (hzs : z.cells.size = k) (hk0 : 0 < k)
    (v : Value) (xs : List α) (y : α) (hs : a.eval s = v) (hown : Own cs k e base w v xs) (g m c : Nat) (hx : a.eval x = .slice (some ⟨g, 0, none⟩) m c) (hm : m = 1)
    (f : Nat × Nat) (e' : TypeId) (hblk : w.heap[g]? = some (.cells (cs y).toArray e' f)) (hy : (cs y).length = k) (h1 : ∀ u ∈ cs y, u.oneCell' = true)
    (hlen : (xs.length + 1) * bytes ≤ 140737488355328) (hb0 : 0 < bytes) (hbase : base ≤ w.heap.size)
    (h : ∀ v' w', Own cs k e base w' v' (xs ++ [y]) → w.grownBy w' v.ownBlock → NewRow w v v' → wpListIn F n P ops Q rest (a.put o.dst v') w') : wpListIn F n P ops Q (o :: rest) a w := by
  subst hm
  obtain ⟨i0, hi, hz0, hz1, hz2⟩ := info_parts hinfo
  have hl1 : xs.length + 1 ≤ maxLen := by
    have : xs.length + 1 ≤ (xs.length + 1) * bytes := Nat.le_mul_of_pos_right _ hb0
    unfold maxLen; omega
  obtain ⟨v', w', hr, h2, h3, h4⟩ := run_push (P := P) w base t o.type e i0 z k bytes ht hi hz0 hz1 hz2 hzs hk0 v xs.length (xs.flatMap cs) hown ⟨g, 0, none⟩ 1 c (cs y) (by rw [hy, Nat.one_mul]) (fun j u hu => by
    rw [show (⟨g, 0, none⟩ : Addr).add j = ⟨g, j, none⟩ from by unfold Addr.add; split <;> simp_all, blk_cell hblk]
    simpa using hu) h1 hl1 hlen hbase
  refine wpListIn_plain hgd fun K hK => ?_
  unfold Oper.wpIn
  refine ⟨?_, ?_⟩
  · simp [Oper.about, ho, resolve, Target.leads, Sem.run_pure]
  · rw [Oper.semAt_plain F _ _ (by rw [ho]; intro c hc'; cases hc')]
    simp [execOp, ho, resolve, invoke, builtin, hs, hx, hr, Result.andThen]
    exact hK _ _ (h v' w' (by unfold Own; rw [List.length_append, List.flatMap_append]; simpa using h2) h3 h4)
def beachOf (l : List DPlace) : List Int := (l.filter fun p => p.b == 0).map DPlace.c
theorem beachOf_yes {l : List DPlace} {x : DPlace} (h : x.b = 0) : beachOf (l ++ [x]) = beachOf l ++ [x.c] := by simp [beachOf, h]
theorem beachOf_no {l : List DPlace} {x : DPlace} (h : ¬ x.b = 0) : beachOf (l ++ [x]) = beachOf l := by simp [beachOf, h]
theorem beachOf_len (l : List DPlace) : (beachOf l).length ≤ l.length := by unfold beachOf; rw [List.length_map]; exact List.length_filter_le _ _
theorem places_len (m : Nat) : (placesOf m).length ≤ 320 := by
  unfold placesOf; rw [List.length_map]; exact Nat.le_trans (List.length_filter_le _ _) (by simp)
def beachL (s : DSea) (l : List DWind) (known f : Int) (x : DLoss) (h : Int) : List Int := beachOf (reachL s l known f x h)
set_option maxHeartbeats 1000000 in
set_option maxRecDepth 20000 in
theorem beaches_calls (s : DSea) (l : List DWind) (x : DLoss) (known f h : Int) (vh vt vl : Value) (w : World) (hf : 0 ≤ f ∧ f ≤ 255) (h1 : Sl intCs 1 w vh s.hts) (h2 : Sl DTide.cs 2 w vt s.tds) (h3 : Sl DWind.cs 9 w vl l) :
    Calls Tryz.prog 24 #[.agg #[iv s.cells, iv s.bands, vh, vt], vl, iv known, lossV x, .int .u8 f, iv h] w fun e w' =>
      ∃ v, e = .returned (.tuple #[v, iv (errAsk s l x f none h)]) ∧ Own intCs 1 3 w.heap.size w' v (beachL s l known f x h) ∧ Below w.heap.size w w' := by
  have hF : ∀ f, Fence.wide.fn f := fun _ => trivial
  have hD : Fence.wide.depth = none := rfl
  obtain ⟨A1, k1, rfl, hk1, hlk1⟩ := h1.open_
  obtain ⟨A2, k2, rfl, hk2, hlk2⟩ := h2.open_
  have hbW := bl_alloc (bl_alloc (Below.refl w.heap.size w) (.cells #[iv s.cells, iv s.bands, .slice A1 s.hts.length k1, .slice A2 s.tds.length k2] 25)) (.cells (lossA x) 30)
  have HBW := Lib.hid hbW
  by_cases he : errAsk s l x f none h = 0
  · have HC := Lib.hid (asked_ok s l x known f h _ _ vl _ hf (h1.below hbW) (h2.below hbW) (h3.below hbW) he)
    have HFA := Lib.hid (ask_facts he)
    have HR : Hid (beachL s l known f x h = beachOf (placesOf (reachM s (counting l known) f x h))) := congrArg beachOf (if_pos he)
    have HE := Lib.hid he
    clear he h1 h2 h3 hbW
    refine callsW.1 (callsIn_of_wp_marks (F := FW none) (n := 0) Tryz.func24 rfl trivial (wpIn_wide.2 ?_))
    simp only [Tryz.ntmps24, List.size_toArray, List.length_cons, List.length_nil, Nat.reduceAdd, Nat.reduceSub, Array.replicate_succ, Array.replicate_zero, List.push_toArray, List.append_toArray, List.nil_append, List.cons_append]
    go_wp2_with fail
    refine HC.out.mono ?_
    rintro e w1 ⟨A3, n3, c3, rfl, hk, hb1⟩
    have HK := Lib.hid hk
    have G1 := Lib.hid (blk_below (blk_at (w := w.alloc (.cells #[iv s.cells, iv s.bands, .slice A1 s.hts.length k1, .slice A2 s.tds.length k2] 25)) (.cells (lossA x) 30) (show w.heap.size + 1 = _ by simp)) hb1)
    have HB1 := Lib.hid (bl_step HBW.out hb1)
    obtain ⟨d0, d1, d2, d3, d4, d5, d6⟩ := loss_cells G1.out
    have l1 := blk_lt G1.out
    have l1' : w.heap.size < w1.heap.size := by omega
    clear hk hb1
    go_wp2_with fail
    refine calls_abs (fun W2 hW2 => ?_)
    have hb2 : Below w1.heap.size w1 W2 := by rw [hW2]; exact bl_alloc (bl_alloc (Below.refl _ _) _) _
    have g2 : W2.heap[w1.heap.size + 1]? = some (.cells #[.slice none 0 0] 22 (0, 0)) := by rw [hW2]; exact blk_at _ (by simp)
    clear hW2
    refine (last_calls s _ f _ _ _ x h W2 (HK.out.below hb2) HFA.out.loss HFA.out.hour.2 HFA.out.near.1).mono ?_
    rintro e W ⟨rfl, hb3⟩
    have hB := bl_step (bl_step HB1.out hb2) hb3
    have b0 := blk_below g2 hb3
    have hsz := blk_lt b0
    have hs1 := HB1.out.size
    obtain ⟨M, hM⟩ : ∃ M, M = reachM s (counting l known) f x h := ⟨_, rfl⟩
    rw [← hM] at HR ⊢
    rw [setV_arr, setA]
    clear hb2 hb3 d0 d1 d2 d3 d4 d5 d6 g2 hM
    go_wp2_with fail
    have hG : Gath intCs 1 3 W.heap.size (w1.heap.size + 1) 22 w (fun _ => False) (beachOf []) W := ⟨⟨_, b0, Own.nil _ _, fun _ _ h => h⟩, fun h => h, fun _ h => h.elim, by omega, Nat.le_refl _, hB⟩
    have HB := Lib.hid hB
    have hbW := hB.size
    refine wp_iter0 (α := DPlace) (callsAs_method (enters_of Tryz.func82 (by kernel_rfl) rfl)) (all_iter M w) (K := fun _ => False) (w0 := w) (Fix.of_below hB) (fun x => rfl) (fun b h => h.elim)
      (fun X pre V => Gath intCs 1 3 W.heap.size (w1.heap.size + 1) 22 w X (beachOf pre) V)
      (fun cd X pre V => False)
      (fun X pre V V' h hf => h.fix (by omega) hf) (fun X X' pre V h hx => h.ext hx) (fun _ _ _ _ _ h _ => h) (fun _ _ _ _ _ h _ => h) hG ?_ ?_ ?_
    · rintro lp Y pre x V hlp hY hr hN hx hfK
      gi_wp2
      refine ⟨Fix.of_below (bl_alloc (Below.refl _ _) _), fun W2 hf2 hs2 hr2 => ?_⟩
      have hN' := hN
      obtain ⟨⟨v, h1, h2, h3⟩, h4, h5, h6, h7, h8⟩ := hN
      have hlg : ¬ w1.heap.size + 1 = lp := fun h => h4 (h ▸ hlp)
      have d0 : W2.heap[w1.heap.size + 1]? = some (.cells #[v] 22 (0, 0)) := hf2.blk (blk_alloc h1 _) hlg
      have d1 : W2.heap[V.heap.size]? = some (.cells #[iv x.c, iv x.b] 48 (0, 0)) := hf2.blk (blk_new _ _) (fun h => by have := (hY lp hlp).2; omega)
      have d2 : Own intCs 1 3 W.heap.size W2 v (beachOf pre) := (h2.alloc _).fix hf2 (fun b hb h => h3 b hb (h ▸ hlp))
      have d3 : Below w.heap.size w W2 := bl_fix (bl_alloc h8 _) (Nat.le_refl _) (N := W.heap.size) (by omega) (hf2.mono fun b _ hb => by have := (hY lp hlp).1; omega)
      have hs3 : V.heap.size ≤ W2.heap.size := by simp at hs2; omega
      have hll : (beachOf pre).length ≤ 1000000 := by have h1 := hx.length_le; have h2 := beachOf_len pre; have h3 := places_len M; simp at h1; omega
      have c0 := blk_cell d0 0
      have c1 := blk_cell d1 0
      have c2 := blk_cell d1 1
      simp only [List.getElem?_toArray, List.getElem?_cons_zero, List.getElem?_cons_succ] at c0 c1 c2
      have f0 := blk_frozen d0 0
      have hG2 : Gath intCs 1 3 W.heap.size (w1.heap.size + 1) 22 w Y (beachOf pre) W2 := ⟨⟨v, d0, d2, h3⟩, h4, h5, h6, by omega, d3⟩
      have HG2 := Lib.hid hG2
      have D0 := Lib.hid d0
      have D2 := Lib.hid d2
      have D3 := Lib.hid d3
      have H3 := Lib.hid h3
      have H4 := Lib.hid h4
      have HY := Lib.hid hY
      have H7 : Hid (W.heap.size ≤ W2.heap.size) := by unfold Hid; omega
      by_cases hxb : x.b = 0
      · have HP : Hid (beachOf (pre ++ [x]) = beachOf pre ++ [x.c]) := beachOf_yes hxb
        have hxb' : (x.b == 0) = true := by simp [hxb]
        obtain ⟨pl, hpl⟩ : ∃ pl, pl = beachOf pre := ⟨_, rfl⟩
        rw [← hpl] at D2 hll HP
        clear hpl hxb d0 d1 d2 d3 h1 h2 h3 h4 h5 h8 hf2 hs2 hr hr2 hx hfK hY hB b0 hG hN' hG2 HG2
        have hb3 : Below W2.heap.size W2 (W2.alloc (.cells #[iv x.c] 3)) := (Below.refl _ _).alloc (Nat.le_refl _) _
        have HB3 := Lib.hid hb3
        gi_wp2_with (gi_at_builtin; refine wpIn_push2 (cs := intCs) (base := W.heap.size) rfl _ _ _ rfl (.int .i64 0) 8 Tryz.underlying22 info3 rfl (by decide) v pl x.c rfl (D2.out.alloc _) W2.heap.size 1 1 rfl rfl (0, 0) 3 (blk_new _ _) rfl (by intro u hu; simp [intCs] at hu; subst hu; rfl) (by omega) (by decide) (by have := H7.out; simp; omega) ?_; intro v' W4 hown' hgrow hnew; obtain ⟨A', c', rfl⟩ := hown'.slice; have g4 := blk_grown (blk_below D0.out HB3.out) hgrow (fun h => by have := (D2.out.lt _ h.symm).1; omega); have c4 := blk_cell g4 0; have f4 := blk_frozen g4 0; have HO := Lib.hid hown'; have HG := Lib.hid hgrow; have HN := Lib.hid hnew; clear hown' hgrow hnew g4)
        have ho := HO.out
        have hn := HN.out
        rw [show (pl ++ [x.c]).length = pl.length + 1 by simp] at ho hn
        have hfin := Gath.pushed (K := fun _ => False) (by omega) (by omega) D0.out D2.out H3.out H4.out (fun b hb => ⟨(HY.out b hb).1, by have := (HY.out b hb).2; omega⟩) (by omega) H7.out D3.out HB3.out ho HG.out hn (fun b hb => hb.elim)
        rw [← HP.out] at hfin
        exact hfin
      · have HP : Hid (beachOf (pre ++ [x]) = beachOf pre) := beachOf_no hxb
        have hxb' : (x.b == 0) = false := by simp [hxb]
        clear hxb d0 d1 d2 d3 h1 h2 h3 h4 h5 h8 hf2 hs2 hr hr2 hx hfK hY hB b0 hG hN' hG2
        gi_wp2
        have hfin := HG2.out
        rw [← HP.out] at hfin
        exact ⟨hfin, Fix.refl _ _⟩
    · rintro V ⟨⟨v, h1, h2, h3⟩, h4, h5, h6, h7, h8⟩ hfK hDf
      have c0 := blk_cell h1 0
      simp only [List.getElem?_toArray, List.getElem?_cons_zero] at c0
      have H2 := Lib.hid h2
      have H8 := Lib.hid h8
      have HDF := Lib.hid hDf
      clear h1 h2 h3 h4 h5 h7 h8 hDf hG b0 hB hfK
      go_wp2
      refine end_mark (D := W.heap.size) (.tuple #[v, iv (errAsk s l x f none h)]) rfl HDF.out ?_ ?_
      · intro U hU
        rw [HE.out]
        simp [results, Tryz.results24, go_sem]
      · intro U hU
        refine ⟨v, rfl, ?_, bl_fix (N := W.heap.size) H8.out (Nat.le_refl _) (by omega) (hU.mono fun b _ hb => by omega)⟩
        rw [HR.out]
        refine (H2.out.fix hU (fun b hb hD => ?_)).mono (by omega)
        obtain ⟨cur, hcur⟩ := H2.out.isCells hb
        subst hD
        rw [HDF.out] at hcur
        simp at hcur
    · rintro c' pre V hp h _
      exact h.elim
  · have HC := Lib.hid (asked_bad s l x known f h _ _ vl _ hf (h1.below hbW) (h2.below hbW) (h3.below hbW))
    have HR : Hid (beachL s l known f x h = []) := congrArg beachOf (if_neg he)
    obtain ⟨er, her⟩ : ∃ q, q = errAsk s l x f none h := ⟨_, rfl⟩
    rw [← her] at he HC ⊢
    have h0' : (er != 0) = true := by simp [bne, he]
    clear he h1 h2 h3 hbW her
    go_enter Tryz.func24, Tryz.ntmps24
    go_wp2_with fail
    refine HC.out.mono ?_
    rintro e w1 ⟨q0, q1, B2, n2, c2, B3, n3, c3, B4, n4, c4, q5, rfl, hb1⟩
    have HB1 := Lib.hid (bl_step HBW.out hb1)
    clear hb1
    go_wp2_with fail
    refine bodyPost_ret (v := .tuple #[.slice none 0 0, iv er]) (by simp [results, Tryz.results24, go_sem]) rfl ⟨_, rfl, ?_, bl_alloc HB1.out _⟩
    rw [HR.out]
    exact Own.nil _ _
end Go.Proofs.YtjekioabkmijbaaGreatDoor
