/- Rows that a range loop gathers. -/
import Derived.Test.YtjekioabkmijbaaGreatDoorZ08
import Derived.Laws.OwnMore
import Derived.Test.YtjekioabkmijbaaGreatDoorZ06
import Derived.Maps.Own
import Derived.Maps.Views
set_option linter.unusedVariables false
set_option linter.unusedSimpArgs false
namespace Go.Proofs.YtjekioabkmijbaaGreatDoor
open Go.RowKit
/-- v' lies where v lay, or in memory that was not there. -/
def NewRow (w : World) (v v' : Value) : Prop := v'.ownBlock = v.ownBlock ∨ ∀ b, v'.ownBlock = some b → w.heap.size ≤ b
theorem run_push {P : Program} (w : World) (base : Nat) (t ty e : TypeId) (i : TypeInfo) (z : Value) (size bytes : Nat) (ht : P.underlying t = some (.slice e)) (hi : P.info? e = some i) (hz : i.zero = some z)
    (hsize : i.size = size) (hby : i.bytes = bytes) (hzs : z.cells.size = size) (hsz : 0 < size)
    (v : Value) (n : Nat) (xs : List Value) (hown : w.ownsRow base e size v n xs)
    (a : Addr) (m c : Nat) (news : List Value) (hl : news.length = m * size) (hnews : ∀ j u, news[j]? = some u → w.cell? (a.add j) = some u) (h1 : ∀ u ∈ news, u.oneCell' = true)
    (h63 : n + m ≤ maxLen) (hbytes : (n + m) * bytes ≤ 140737488355328) (hbase : base ≤ w.heap.size) :
    ∃ v' w', (Builtin.append_ #[t, t] ty #[v, .slice (some a) m c]).run P w = .ok v' w' ∧ w'.ownsRow base e size v' (n + m) (xs ++ news) ∧ w.grownBy w' v.ownBlock ∧ NewRow w v v' := by
  obtain ⟨v', w', hr, h2, h3, _⟩ := run_append_own (P := P) w base t ty e i z size bytes ht hi hz hsize hby hzs hsz v n xs hown a m c news hl hnews h1 h63 hbytes hbase
  refine ⟨v', w', hr, h2, h3, ?_⟩
  rcases hown.2 with ⟨rfl, rfl⟩ | ⟨g, cap, cur, rfl, hbg, hg, hnc, hcm, hcs, htake⟩
  · have hx : xs = [] := List.eq_nil_of_length_eq_zero (by simpa using hown.1)
    subst hx
    obtain ⟨v2, w2, hr2, h22, _, _⟩ := run_append_own (P := P) w w.heap.size t ty e i z size bytes ht hi hz hsize hby hzs hsz (.slice none 0 0) 0 [] (World.ownsRow_nil _ _ _ _) a m c news hl hnews h1 h63 hbytes (Nat.le_refl _)
    rw [hr] at hr2
    obtain ⟨rfl, rfl⟩ : v' = v2 ∧ w' = w2 := by simpa using hr2
    exact .inr fun b hb => (h22.lt b hb).1
  · by_cases hroom : n + m ≤ cap
    · obtain ⟨w2, hr2, _, _⟩ := run_append_fits (P := P) w base t ty e i size ht hi hsize g n cap xs hown a m c news hl hnews h1 hroom
      rw [hr] at hr2
      obtain ⟨rfl, rfl⟩ : v' = _ ∧ w' = w2 := by simpa using hr2
      exact .inl rfl
    · have holds : ∀ j u, xs[j]? = some u → w.cell? ((⟨g, 0, none⟩ : Addr).add j) = some u := hown.cells (g := g) rfl
      have hr2 := run_append_grow (P := P) w t ty e i z ht hi hz ⟨g, 0, none⟩ n cap xs (by rw [hsize]; exact hown.1) holds a m c news (by rw [hsize]; exact hl) hnews (by omega) (by simp only [maxLen] at h63; omega) (growslice_fits (by omega) (by rw [hby]; exact hbytes))
      rw [hr] at hr2
      have e1 : v' = .slice (some ⟨w.heap.size, 0, none⟩) (n + m) (grownCap w (n + m) cap e) := by simp only [Result.ok.injEq] at hr2; exact hr2.1
      rw [e1]
      exact .inr fun b hb => by simp [Value.ownBlock] at hb; omega
theorem wp_push2 {α : Type} {cs : α → List Value} {k e base : Nat} {P : Program} {w : World} {ops : Array Oper} {rest : List Oper} {o : Oper} {a : Act} {Q : Exit → Act → World → Prop} (hgd : o.guard = none) (s x : Operand) (t : TypeId)
    (ho : o.op = .call { callee := .builtin .append, args := #[s, x], argTypes := #[t, t] }) (z : Value) (bytes : Nat) (ht : P.underlying t = some (.slice e))
    (hinfo : (P.info? e).map (fun i => (i.zero, i.size, i.bytes)) = some (some z, k, bytes)) (hzs : z.cells.size = k) (hk0 : 0 < k)
    (v : Value) (xs : List α) (y : α) (hs : a.eval s = v) (hown : Own cs k e base w v xs) (g m c : Nat) (hx : a.eval x = .slice (some ⟨g, 0, none⟩) m c) (hm : m = 1)
    (f : Nat × Nat) (e' : TypeId) (hblk : w.heap[g]? = some (.cells (cs y).toArray e' f)) (hy : (cs y).length = k) (h1 : ∀ u ∈ cs y, u.oneCell' = true)
    (hlen : (xs.length + 1) * bytes ≤ 140737488355328) (hb0 : 0 < bytes) (hbase : base ≤ w.heap.size)
    (h : ∀ v' w', Own cs k e base w' v' (xs ++ [y]) → w.grownBy w' v.ownBlock → NewRow w v v' → wpList P ops Q rest (a.put o.dst v') w') : wpList P ops Q (o :: rest) a w := by
  subst hm
  obtain ⟨i0, hi, hz0, hz1, hz2⟩ := info_parts hinfo
  have hl1 : xs.length + 1 ≤ maxLen := by
    have : xs.length + 1 ≤ (xs.length + 1) * bytes := Nat.le_mul_of_pos_right _ hb0
    unfold maxLen; omega
  obtain ⟨v', w', hr, h2, h3, h4⟩ := run_push (P := P) w base t o.type e i0 z k bytes ht hi hz0 hz1 hz2 hzs hk0 v xs.length (xs.flatMap cs) hown ⟨g, 0, none⟩ 1 c (cs y) (by rw [hy, Nat.one_mul]) (fun j u hu => by
    rw [show (⟨g, 0, none⟩ : Addr).add j = ⟨g, j, none⟩ from by unfold Addr.add; split <;> simp_all, blk_cell hblk]
    simpa using hu) h1 hl1 hlen hbase
  refine wpList_plain hgd fun K hK => ?_
  unfold Oper.wp execOp
  simp only [ho, resolve, invoke, builtin, Sem.run_bind, Sem.run_pure, Result.andThen_ok, List.map_toArray, List.map_cons, List.map_nil, hs, hx, hr]
  exact hK _ _ (h v' w' (by unfold Own; rw [List.length_append, List.flatMap_append]; simpa using h2) h3 h4)
/-- A region that does not draw, in a round. -/
theorem region_list {r : Option Nat} {P : Program} {id : Nat} {l : List Oper} {Q : Exit → Act → World → Prop} {a : Act} {w : World} (hd : ∀ o ∈ l, ∀ c, o.op ≠ .defer c) (hL : ¬ LetsOut Q) (h : wpList P l.toArray Q l a w) : (Code.region id l.toArray false).wpIn (FW r) 0 P Q a w := by
  refine wpIn_region (opsIn_of_ops (by simpa using hd) hL _ _ _ ?_)
  rw [List.range_eq_range', show l.toArray.size = l.length by simp, wpOps_eq_wpList l 0 (by simp)]
  exact h
/-- What the loop has gathered. -/
def Gath {α : Type} (cs : α → List Value) (k e : Nat) (base g ty : Nat) (w : World) (X : Nat → Prop) (pre : List α) (V : World) : Prop :=
  (∃ v, V.heap[g]? = some (.cells #[v] ty (0, 0)) ∧ Own cs k e base V v pre ∧ (∀ b, v.ownBlock = some b → ¬ X b)) ∧ ¬ X g ∧ (∀ b, X b → base ≤ b) ∧ g < base ∧ base ≤ V.heap.size ∧ Below w.heap.size w V
theorem Own.fix {α : Type} {cs : α → List Value} {k e base : Nat} {V V' : World} {v : Value} {xs : List α} (h : Own cs k e base V v xs) {K : Nat → Prop} (hf : Fix K V V') (hK : ∀ b, v.ownBlock = some b → K b) : Own cs k e base V' v xs := by
  refine ⟨h.1, ?_⟩
  rcases h.2 with hn | ⟨g, cap, cur, rfl, hb, hg, r⟩
  · exact .inl hn
  · exact .inr ⟨g, cap, cur, rfl, hb, hf.blk hg (hK g rfl), r⟩
theorem Gath.fix {α : Type} {cs : α → List Value} {k e base g ty : Nat} {w : World} {X : Nat → Prop} {pre : List α} {V V' : World} (hw : w.heap.size ≤ base) (h : Gath cs k e base g ty w X pre V) (hf : Fix (fun b => ¬ X b) V V') : Gath cs k e base g ty w X pre V' := by
  obtain ⟨⟨v, h1, h2, h3⟩, h4, h5, h6, h7, h8⟩ := h
  refine ⟨⟨v, hf.blk h1 h4, h2.fix hf h3, h3⟩, h4, h5, h6, Nat.le_trans h7 hf.size, bl_fix h8 (Nat.le_refl _) hw (hf.mono fun b _ hb hx => by have := h5 b hx; omega)⟩
theorem Gath.ext {α : Type} {cs : α → List Value} {k e base g ty : Nat} {w : World} {X X' : Nat → Prop} {pre : List α} {V : World} (h : Gath cs k e base g ty w X pre V) (hx : ∀ b, X' b → X b ∨ V.heap.size ≤ b) : Gath cs k e base g ty w X' pre V := by
  obtain ⟨⟨v, h1, h2, h3⟩, h4, h5, h6, h7, h8⟩ := h
  refine ⟨⟨v, h1, h2, fun b hb hx' => ?_⟩, fun hx' => ?_, fun b hx' => ?_, h6, h7, h8⟩
  · rcases hx b hx' with h | h
    · exact h3 b hb h
    · have := (h2.lt b hb).2; omega
  · rcases hx g hx' with h | h
    · exact h4 h
    · omega
  · rcases hx b hx' with h | h
    · exact h5 b h
    · omega
/-- The row is stored anew. -/
theorem Gath.pushed {α : Type} {cs : α → List Value} {k e base g ty : Nat} {w : World} {Y : Nat → Prop} {pre : List α} {x : α} {W2 W3 W4 : World} {v v' : Value} (hw : w.heap.size ≤ base) (hw' : w.heap.size ≤ g)
    (h1 : W2.heap[g]? = some (.cells #[v] ty (0, 0))) (h2 : Own cs k e base W2 v pre) (h3 : ∀ b, v.ownBlock = some b → ¬ Y b) (h4 : ¬ Y g) (h5 : ∀ b, Y b → base ≤ b ∧ b < W2.heap.size) (h6 : g < base) (h7 : base ≤ W2.heap.size) (h8 : Below w.heap.size w W2)
    (hb : Below W2.heap.size W2 W3) (ho : Own cs k e base W4 v' (pre ++ [x])) (hg : W3.grownBy W4 v.ownBlock) (hn : NewRow W3 v v') {K : Nat → Prop} (hK : ∀ b, K b → b < base ∧ b ≠ g) :
    Gath cs k e base g ty w Y (pre ++ [x]) (W4.setCell ⟨g, 0, none⟩ v') ∧ Fix (fun b => Y b ∨ K b) W2 (W4.setCell ⟨g, 0, none⟩ v') := by
  have hf : Fix (fun b => (Y b ∨ K b) ∨ (b < base ∧ b ≠ g)) W2 (W4.setCell ⟨g, 0, none⟩ v') := by
    refine ((Fix.of_below hb).grown hg ?_).setCell (p := ⟨g, 0, none⟩) ?_ _
    · rintro b hb' _ h
      have hl := (h2.lt b hb').1
      rcases h with (h | h) | h
      · exact h3 b hb' h
      · have := hK b h; omega
      · omega
    · rintro _ h
      rcases h with (h | h) | h
      · exact h4 h
      · exact (hK g h).2 rfl
      · exact h.2 rfl
  have hvg : v.ownBlock ≠ some g := fun h => by have := (h2.lt g h).1; omega
  have hsz := hb.size
  refine ⟨⟨⟨v', ?_, ?_, ?_⟩, h4, fun b hy => (h5 b hy).1, h6, Nat.le_trans h7 hf.size, ?_⟩, hf.mono fun b _ h => .inl h⟩
  · have := blk_set (blk_grown (blk_below h1 hb) hg (fun h => hvg h.symm)) 0 v'
    simpa using this
  · refine ho.set (fun h => ?_) _
    have := (ho.lt g h).1
    omega
  · intro b hb' hy
    rcases hn with h | h
    · rw [h] at hb'; exact h3 b hb' hy
    · have := h b hb'; have := (h5 b hy).2; omega
  · exact ⟨hf.os.trans h8.os, hf.tape.trans h8.tape, hf.output.trans h8.output, Nat.le_trans h8.size hf.size, fun b hb' => (hf.block b (Nat.lt_of_lt_of_le hb' h8.size) (.inr ⟨by omega, by omega⟩)).trans (h8.block b hb')⟩
end Go.Proofs.YtjekioabkmijbaaGreatDoor
/- slices.Clone of winds. -/
set_option linter.unusedVariables false
set_option linter.unusedSimpArgs false
namespace Go.Proofs.YtjekioabkmijbaaGreatDoor
open Go.RowKit
theorem flatMap_len {α : Type} {cs : α → List Value} {k : Nat} (hk : ∀ x, (cs x).length = k) : ∀ xs : List α, (xs.flatMap cs).length = xs.length * k
  | [] => by simp
  | x :: r => by rw [List.flatMap_cons, List.length_append, flatMap_len hk r, hk, List.length_cons, Nat.add_mul]; omega
theorem flatMap_inv {α : Type} {cs : α → List Value} {k : Nat} (hk : ∀ x, (cs x).length = k) (h0 : 0 < k) {xs : List α} {j : Nat} {u : Value} (h : (xs.flatMap cs)[j]? = some u) :
    ∃ i t x, j = i * k + t ∧ xs[i]? = some x ∧ (cs x)[t]? = some u := by
  have hj : j < xs.length * k := by rw [← flatMap_len hk xs]; exact (List.getElem?_eq_some_iff.1 h).1
  have hi : j / k < xs.length := by rw [Nat.div_lt_iff_lt_mul h0]; exact hj
  have hx : xs[j / k]? = some xs[j / k] := List.getElem?_eq_getElem hi
  have ht : j % k < (cs xs[j / k]).length := by rw [hk]; exact Nat.mod_lt _ h0
  have hu : (cs xs[j / k])[j % k]? = some (cs xs[j / k])[j % k] := List.getElem?_eq_getElem ht
  have e : j / k * k + j % k = j := by rw [Nat.mul_comm]; exact Nat.div_add_mod j k
  have hg := flatMap_get hk xs (j / k) (j % k) _ _ hx hu
  rw [e, h] at hg
  exact ⟨j / k, j % k, xs[j / k], e.symm, hx, by rw [hu]; exact hg.symm⟩
/-- The cells of a slice that is read, one behind the other. -/
theorem Sl.flat {α : Type} {cs : α → List Value} {k : Nat} (hk : ∀ x, (cs x).length = k) (h0 : 0 < k) {w : World} {a : Addr} {n c : Nat} {xs : List α} (h : Sl cs k w (.slice (some a) n c) xs) : ∀ j u, (xs.flatMap cs)[j]? = some u → w.cell? (a.add j) = some u := by
  intro j u hu
  obtain ⟨i, t, x, rfl, hx, ht⟩ := flatMap_inv hk h0 hu
  obtain ⟨b, o, e, hc⟩ := h.get i x hx
  cases e
  rw [show (⟨b, o, none⟩ : Addr).add (i * k + t) = ⟨b, o + i * k + t, none⟩ by unfold Addr.add; split <;> simp_all [Nat.add_assoc]]
  exact hc t u ht
theorem cs9 (x : DWind) : (DWind.cs x).length = 9 := rfl
theorem wind_one (l : List DWind) : ∀ u ∈ l.flatMap DWind.cs, u.oneCell' = true := by
  intro u hu
  obtain ⟨x, _, hx⟩ := List.mem_flatMap.1 hu
  simp [DWind.cs] at hx
  rcases hx with rfl | rfl | rfl | rfl | rfl | rfl | rfl | rfl | rfl <;> rfl
set_option maxHeartbeats 1000000 in
set_option maxRecDepth 20000 in
theorem clone_calls (l : List DWind) (v : Value) (w : World) (hl : l.length ≤ 1000000) (hs : Sl DWind.cs 9 w v l) :
    Calls Tryz.prog 87 #[v] w fun e w' => ∃ v', e = .returned v' ∧ Own DWind.cs 9 53 w.heap.size w' v' l ∧ Below w.heap.size w w' := by
  obtain ⟨A, c, rfl, hc, _⟩ := hs.open_
  have q26 : ∀ (w : World) (a : Option Addr) (n c n' c' : Nat), (binOp .eql 26 (.slice a n c) (.slice none n' c')).run Tryz.prog w = .ok (.bool a.isNone) w := fun w a n c n' c' => Lib.run_eql_slice_nil w _ _ a n c n' c' Tryz.underlying26
  cases A with
  | none =>
    have hl0 : l = [] := by
      cases l with
      | nil => rfl
      | cons x r => obtain ⟨b, o, e, _⟩ := hs.get 0 x rfl; cases e
    subst hl0
    clear hs
    go_enter Tryz.func87, Tryz.ntmps87
    go_wp2
    go_ret
    exact ⟨_, rfl, Own.nil _ _, Below.refl _ _⟩
  | some a =>
    have HF := Lib.hid (Sl.flat (cs := DWind.cs) (k := 9) (fun x => rfl) (by decide) hs)
    have HS := Lib.hid hs
    have H1 := Lib.hid (wind_one l)
    obtain ⟨i0, hi, hz0, hz1, hz2⟩ := info_parts info53
    clear hs
    go_enter Tryz.func87, Tryz.ntmps87
    go_wp2_with (at_builtin; refine wpList_append_own _ rfl _ _ 26 rfl w.heap.size 53 i0 (.agg #[iv 0, iv 0, iv 0, iv 0, iv 0, iv 0, iv 0, iv 0, iv 0]) 9 72 Tryz.underlying26 hi hz0 hz1 hz2 rfl (by decide) (.slice (some ⟨w.heap.size, 0, none⟩) 0 0) 0 [] rfl (World.ownsRow_made w #[] 0 (Nat.le_refl _) (by decide) rfl) a l.length c (l.flatMap DWind.cs) rfl (flatMap_len (cs := DWind.cs) (k := 9) (fun x => rfl) l) (fun j u hu => Lib.cell?_alloc_some _ (HF.out j u hu)) H1.out (by unfold maxLen; omega) (by omega) (by simp) ?_; intro v' w3 hown' hgrow3 hnil3)
    refine bodyPost_ret (v := v') (by simp [results, Tryz.results87, go_sem]) rfl ⟨v', rfl, ?_, ?_⟩
    · unfold Own; simpa using hown'
    · exact Below.grown (bl_alloc (Below.refl _ _) _) hgrow3 (by simp) (fun b hb => by simp [Value.ownBlock] at hb; omega)
end Go.Proofs.YtjekioabkmijbaaGreatDoor
/- The winds that count. -/
set_option linter.unusedVariables false
set_option linter.unusedSimpArgs false
namespace Go.Proofs.YtjekioabkmijbaaGreatDoor
open Go.RowKit Go.Maps
theorem windOk_bounds {x : DWind} (h : windOk x = true) : (1 ≤ x.id ∧ x.id ≤ 1000000) ∧ (0 ≤ x.kn ∧ x.kn ≤ 1000000) ∧ (0 ≤ x.vo ∧ x.vo ≤ 1000000) := by
  unfold windOk voidOk inB at h
  by_cases hv : x.vo = 0
  · rw [if_pos hv] at h
    simp only [Bool.and_eq_true, decide_eq_true_eq] at h
    omega
  · rw [if_neg hv] at h
    simp only [Bool.and_eq_true, decide_eq_true_eq] at h
    omega
def voids (known : Int) (y : DWind) : Bool := y.vo != 0 && decide (y.kn ≤ known)
def voidD (known : Int) (l : List DWind) : DataW Unit := l.foldl (fun D x => if voids known x then D.put (.int .i64 x.vo) (.lit (.bool true)) else D) (.map [])
theorem voidD_snoc (known : Int) (l : List DWind) (x : DWind) : voidD known (l ++ [x]) = if voids known x then (voidD known l).put (.int .i64 x.vo) (.lit (.bool true)) else voidD known l := by simp [voidD]
theorem wf64 {a : Int} (h0 : -1000000 ≤ a) (h : a ≤ 1000000) : (Lit.int .i64 a).wf = true := by
  have e1 : IntKind.i64.min = -9223372036854775808 := by decide
  have e2 : IntKind.i64.max = 9223372036854775807 := by decide
  show (decide (IntKind.i64.min ≤ a) && decide (a ≤ IntKind.i64.max)) = true
  rw [e1, e2]
  simp only [Bool.and_eq_true, decide_eq_true_eq]
  omega
theorem voidD_map (known : Int) (l : List DWind) : IsMap (voidD known l) := by
  unfold voidD
  suffices h : ∀ (l : List DWind) (D : DataW Unit), IsMap D → IsMap (l.foldl (fun D x => if voids known x then D.put (.int .i64 x.vo) (.lit (.bool true)) else D) D) from h l _ isMap_empty
  intro l
  induction l with
  | nil => exact fun D h => h
  | cons x r ih =>
    intro D h
    rw [List.foldl_cons]
    refine ih _ ?_
    split
    · exact h.put _ _
    · exact h
theorem voidD_at (known : Int) (a : Int) (l : List DWind) : (voidD known l).atKey (.int .i64 a) (.lit (.bool false)) = .lit (.bool (l.any fun y => voids known y && y.vo == a)) := by
  suffices h : ∀ r : List DWind, (voidD known r.reverse).atKey (.int .i64 a) (.lit (.bool false)) = .lit (.bool (r.reverse.any fun y => voids known y && y.vo == a)) by
    have := h l.reverse; rwa [List.reverse_reverse] at this
  intro r
  induction r with
  | nil => rfl
  | cons x r ih =>
    rw [List.reverse_cons, voidD_snoc, List.any_append]
    cases hv : voids known x with
    | false => rw [if_neg (by simp), ih]; simp [hv]
    | true =>
      rw [if_pos rfl]
      by_cases ha : x.vo = a
      · subst ha
        rw [atKey_put_same (voidD_map known _) (by trivial)]
        simp [hv]
      · rw [atKey_put_other (by intro h; cases h; exact ha rfl), ih]
        simp [hv, ha]
theorem plainElem_bool_inv {P : Program} {e : TypeId} (he : P.underlying e = some .bool) {v : Value} {z : DataW Unit × List MemPlace} (h : plainElem P e v = some z) : ∃ b, v = .bool b ∧ z = (.lit (.bool b), []) := by
  unfold plainElem at h
  rw [he] at h
  cases v <;> simp at h
  exact ⟨_, rfl, h.symm⟩
theorem counts_not (l : List DWind) (known : Int) (x : DWind) : (!counts l known x) = (x.vo != 0 || decide (known < x.kn) || l.any fun y => voids known y && y.vo == x.id) := by
  unfold counts voids
  generalize (l.any fun y => (y.vo != 0 && decide (y.kn ≤ known)) && y.vo == x.id) = b
  have e : decide (known < x.kn) = !decide (x.kn ≤ known) := by rw [← decide_not]; exact decide_eq_decide.2 (by omega)
  rw [e]
  unfold bne
  cases x.vo == 0 <;> cases decide (x.kn ≤ known) <;> cases b <;> rfl
/-- The map of the voids, in block b. -/
def VoidMap (known : Int) (l : List DWind) (b : Nat) (w : World) : Prop := ∃ n, w.ownsMap Tryz.prog 3 (plainElem (H := Unit) Tryz.prog 4) b n (voidD known l)
theorem VoidMap.below {known : Int} {l : List DWind} {b : Nat} {w w' : World} (h : VoidMap known l b w) (hb : Below w.heap.size w w') : VoidMap known l b w' := by
  obtain ⟨n, h⟩ := h
  exact ⟨n, h.kept (row := none) ⟨hb.os, hb.tape, hb.output, hb.size, fun i hi _ => hb.block i hi⟩ (by simp)⟩
theorem VoidMap.look {known : Int} {l : List DWind} {b : Nat} {w : World} (h : VoidMap known l b w) (a : Int) (h0 : -1000000 ≤ a) (h1 : a ≤ 1000000) : (Instr.lookup 173 (.map (some b)) (iv a) false).run Tryz.prog w = .ok (.bool (l.any fun y => voids known y && y.vo == a)) w := by
  obtain ⟨n, h⟩ := h
  obtain ⟨v, ps, hrun, hv⟩ := h.lookup (t := 173) (e := 4) (int_keyed Tryz.underlying3) Tryz.underlying173 (z := .bool false) (by simp [go_sem]) (plainElem_bool Tryz.underlying4 false) (key := iv a) (keyOf_int_mk Tryz.underlying3 (wf64 h0 h1))
  obtain ⟨x, rfl, hx⟩ := plainElem_bool_inv Tryz.underlying4 hv
  rw [voidD_at] at hx
  simp only [Prod.mk.injEq, DataW.lit.injEq, Lit.bool.injEq, and_true] at hx
  rw [hrun, hx.1]
set_option maxHeartbeats 1000000 in
theorem c156_calls (g1 g2 b : Nat) (known : Int) (l : List DWind) (y : DWind) (w : World) (hy : windOk y = true) (h1 : w.heap[g1]? = some (.cells #[iv known] 3 (0, 0))) (h2 : w.heap[g2]? = some (.cells #[.map (some b)] 173 (0, 0))) (hm : VoidMap known l b w) :
    Calls Tryz.prog 156 #[windV y, .pointer (some ⟨g1, 0, none⟩), .pointer (some ⟨g2, 0, none⟩)] w fun e w' => e = .returned (.bool (!counts l known y)) ∧ Below w.heap.size w w' := by
  have hb := windOk_bounds hy
  have c1 := blk_cell h1 0
  have c2 := blk_cell h2 0
  have l1 := blk_lt h1
  have l2 := blk_lt h2
  simp only [List.getElem?_toArray, List.getElem?_cons_zero] at c1 c2
  have hlook : ∀ V, Below w.heap.size w V → (Instr.lookup 173 (.map (some b)) (iv y.id) false).run Tryz.prog V = .ok (.bool (l.any fun z => voids known z && z.vo == y.id)) V := fun V hV => (hm.below hV).look y.id (by omega) (by omega)
  have HE : Hid _ := counts_not l known y
  generalize (l.any fun z => voids known z && z.vo == y.id) = a at hlook HE
  have hl1 := hlook (w.alloc (.cells (windA y) 53)) (bl_alloc (Below.refl _ _) _)
  clear h1 h2 hm hlook hb hy
  cases hv : y.vo == 0 with
  | false =>
    have hv' : (y.vo != 0) = true := by simp [bne, hv]
    rw [hv'] at HE
    go_enter Tryz.func156, Tryz.ntmps156
    go_wp2
    refine bodyPost_ret (v := .bool (!counts l known y)) (by rw [HE.out]; simp [results, Tryz.results156, go_sem]) rfl ⟨rfl, bl_alloc (Below.refl _ _) _⟩
  | true =>
    have hv' : (y.vo != 0) = false := by simp [bne, hv]
    rw [hv'] at HE
    by_cases hk : known < y.kn
    · rw [show decide (known < y.kn) = true by simpa using hk] at HE
      go_enter Tryz.func156, Tryz.ntmps156
      go_wp2
      refine bodyPost_ret (v := .bool (!counts l known y)) (by rw [HE.out]; simp [results, Tryz.results156, go_sem]) rfl ⟨rfl, bl_alloc (Below.refl _ _) _⟩
    · rw [show decide (known < y.kn) = false by simpa using hk] at HE
      go_enter Tryz.func156, Tryz.ntmps156
      go_wp2
      refine bodyPost_ret (v := .bool (!counts l known y)) (by rw [HE.out]; simp [results, Tryz.results156, go_sem]) rfl ⟨rfl, bl_alloc (Below.refl _ _) _⟩
end Go.Proofs.YtjekioabkmijbaaGreatDoor
