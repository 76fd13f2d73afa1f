/- How arguments that are structs of ints, slices of such, and a sea are opened. -/
import Derived.Test.YtjekioabkmijbaaGreatDoorZ01
import Derived.Deep.Slices
import Derived.ChangeSame
import Derived.SizedLaws
import Derived.OpenShut
import Derived.RowKit
import Derived.Below
import Derived.Deep.Fields
import Derived.Test.YtjekioabkmijbaaGreatDoorZ29
import Derived.Test.YtjekioabkmijbaaGreatDoorRows
import Derived.ProofKit
import Derived.Lay
import Derived.LaidMore
import Derived.Lib.LaidTab
import Derived.Lib.LaidU8
import Derived.Shelf.Vars
import Derived.Deep.DeepHandedRow
import Derived.JoinedCond
import Derived.Carry
import Derived.SevenTiedAt
set_option linter.unusedVariables false
set_option linter.unusedSimpArgs false
namespace Go.Proofs.YtjekioabkmijbaaGreatDoor
open Go.ChangeShapes Go.WideShapes Go.RowKit Go.Deep
/-- A type whose cells are all ints: an int, or structs of such. -/
def flatI (P : Program) : Nat → TypeId → Bool
  | 0, _ => false
  | n + 1, t => match P.underlying t with
    | some (.int k) => k == .i64 && P.cellsOf t == 1
    | some (.struct fs) => fs.all (fun f => flatI P n f.type) && (List.range (P.cellsOf t)).all (fun j => fs.any fun f => decide (f.offset ≤ j) && decide (j < f.offset + P.cellsOf f.type))
    | _ => false
section
variable {H : Type} {enc : TypeId × Value → H} {P : Program} {w : World} {base : Nat} {spare : Nat → Bool} {held : Bool}
theorem flat_cells : ∀ {n : Nat} {t : TypeId} {fuel : Nat} {cs : List Value} {x : DataW H × List MemPlace}, flatI P n t = true → DataW.trod enc P w base spare held fuel t cs = some x →
    cs.length = P.cellsOf t ∧ ∀ j, j < cs.length → ∃ z, cs[j]? = some (.int .i64 z) ∧ (Lit.int .i64 z).wf = true
  | 0, t, fuel, cs, x, h, _ => by simp [flatI] at h
  | n + 1, t, fuel, cs, x, h, ht => by
    unfold flatI at h
    split at h
    · rename_i k hk
      simp only [Bool.and_eq_true, beq_iff_eq] at h
      obtain ⟨rfl, hc⟩ := h
      obtain ⟨z, rfl, _, hw⟩ := DataW.trod_int hk ht
      refine ⟨by simp [hc], fun j hj => ?_⟩
      have : j = 0 := by simpa using hj
      subst this
      exact ⟨z, rfl, hw⟩
    · rename_i fs hs
      simp only [Bool.and_eq_true] at h
      obtain ⟨h1, h2⟩ := h
      obtain ⟨xs, m, _, _, hlen, hxl, hf⟩ := DataW.trod_struct hs ht
      refine ⟨hlen, fun j hj => ?_⟩
      rw [List.all_eq_true] at h2
      have hc := h2 j (List.mem_range.2 (by omega))
      rw [Array.any_eq_true] at hc
      obtain ⟨i, hi, hc⟩ := hc
      simp only [Bool.and_eq_true, decide_eq_true_eq] at hc
      have hfi : fs[i]? = some fs[i] := Array.getElem?_eq_getElem hi
      have hx := hf i _ hfi
      rw [List.getElem?_eq_getElem (by omega)] at hx
      rw [Array.all_eq_true] at h1
      obtain ⟨hl, hz⟩ := flat_cells (h1 i hi) hx
      obtain ⟨z, he, hw⟩ := hz (j - fs[i].offset) (by rw [hl]; omega)
      refine ⟨z, ?_, hw⟩
      rw [List.getElem?_take, if_pos (by omega), List.getElem?_drop] at he
      rwa [show fs[i].offset + (j - fs[i].offset) = j by omega] at he
    · cases h
/-- All of a list's parts, chosen one by one. -/
theorem list_of {α : Type} {Q : Nat → α → Prop} : ∀ n : Nat, (∀ i, i < n → ∃ x, Q i x) → ∃ xs : List α, xs.length = n ∧ ∀ i x, xs[i]? = some x → Q i x
  | 0, _ => ⟨[], rfl, fun i x h => by simp at h⟩
  | n + 1, h => by
    obtain ⟨xs, hl, hq⟩ := list_of n (fun i hi => h i (by omega))
    obtain ⟨x, hx⟩ := h n (by omega)
    refine ⟨xs ++ [x], by simp [hl], fun i y hy => ?_⟩
    by_cases hi : i < n
    · rw [List.getElem?_append_left (by omega)] at hy; exact hq i y hy
    · rw [List.getElem?_append_right (by omega)] at hy
      have : i - xs.length = 0 := by
        have := (List.getElem?_eq_some_iff.1 hy).1
        simp at this; omega
      rw [this] at hy
      simp at hy
      subst hy
      have : i = n := by omega
      subst this; exact hx
theorem cells_at {a : Addr} {n : Nat} {cs : List Value} (h : w.cells? base a n = some cs) : cs.length = n ∧ ∀ j u, cs[j]? = some u → w.cell? (a.add j) = some u := by
  obtain ⟨_, hl, hat⟩ := World.cells?_some h
  refine ⟨hl, fun j u hu => ?_⟩
  have hj := (List.getElem?_eq_some_iff.1 hu).1
  exact (hat j (by omega)).trans hu
theorem sized_mem {ts : List TypeId} {ds : List (DataW H)} (h : (DataW.weightsEach P ts ds).all (· ≤ reachBytes) = true) {j : Nat} {t : TypeId} {d : DataW H} (ht : ts[j]? = some t) (hd : ds[j]? = some d) : ∀ n ∈ d.weights P t, n ≤ reachBytes := fun n hn => by
  have := List.all_eq_true.1 h _ (DataW.weights_mem_each ht hd n hn)
  simpa using this
theorem sized_part {t : TypeId} {fs : Array Field} {ds : List (DataW H)} (ht : P.underlying t = some (.struct fs)) (h : ∀ n ∈ (DataW.agg ds).weights P t, n ≤ reachBytes) {j : Nat} {f : Field} {d : DataW H} (hf : fs[j]? = some f) (hd : ds[j]? = some d) : ∀ n ∈ d.weights P f.type, n ≤ reachBytes := fun n hn => by
  refine h n ?_
  simp only [DataW.weights, ht]
  exact DataW.weights_mem_each (j := j) (by simp [hf]) hd n hn
theorem open_flat_slice {α : Type} {cs : α → List Value} {k n : Nat} {t e : TypeId} {fuel : Nat} {csv : List Value} {d : DataW H} {p : List MemPlace} (ht : P.underlying t = some (.slice e)) (hfl : flatI P n e = true) (hC : P.cellsOf e = k) (hk : 0 < k)
    (mk : ∀ zs : List Int, zs.length = k → ∃ x : α, cs x = zs.map fun z => Value.int .i64 z) (hby : 8 ≤ P.bytesOf e) (h : DataW.trod enc P w base spare held fuel t csv = some (d, p)) (hw : ∀ n ∈ d.weights P t, n ≤ reachBytes) :
    ∃ v xs, csv = [v] ∧ Sl cs k w v xs := by
  rcases open_slice ht h with ⟨rfl, _⟩ | ⟨a, len, cap, m, fu, D, Pl, rfl, _, hl, hm, hmm, hx, hi⟩
  · exact ⟨_, [], rfl, Sl.nil w⟩
  simp only [Prod.mk.injEq] at hx
  obtain ⟨rfl, _⟩ := hx
  have hml : len ≤ m := by rw [hmm]; split <;> omega
  have hlen : len ≤ 17592186044416 := by
    have := hw ((((List.range len).map D).length + ((List.range (m - len)).map fun j => D (len + j)).length) * P.bytesOf e) (by simp [DataW.weights, ht])
    have hr := reachBytes_lt
    simp only [List.length_map, List.length_range] at this
    have h8 : len * 8 ≤ (len + (m - len)) * P.bytesOf e := Nat.mul_le_mul (by omega) hby
    have : (2 : Nat) ^ 47 = 140737488355328 := by decide
    omega
  have key : ∀ i, i < len → ∃ x : α, ∀ j u, (cs x)[j]? = some u → w.cell? ((a.add (i * k)).add j) = some u := fun i hil => by
    obtain ⟨cs', hc, ht'⟩ := hi i (by omega)
    rw [hC] at hc
    obtain ⟨hcl, hat⟩ := cells_at hc
    obtain ⟨_, hz⟩ := flat_cells hfl ht'
    obtain ⟨zs, hzl, hzs⟩ := list_of (Q := fun j z => cs'[j]? = some (Value.int .i64 z)) k (fun j hj => by obtain ⟨z, hz, _⟩ := hz j (by omega); exact ⟨z, hz⟩)
    obtain ⟨x, hx⟩ := mk zs hzl
    refine ⟨x, fun j u hu => hat j u ?_⟩
    rw [hx, List.getElem?_map] at hu
    obtain ⟨z, hz1, rfl⟩ := Option.map_eq_some_iff.1 hu
    exact hzs j z hz1
  obtain ⟨xs, hxl, hxs⟩ := list_of len key
  subst hxl
  refine ⟨_, xs, rfl, some a, cap, rfl, hl, hlen, fun i x hx => ?_⟩
  have h0 : ∃ u, (w.cell? a) = some u := by
    have hi0 : 0 < xs.length := by have := (List.getElem?_eq_some_iff.1 hx).1; omega
    obtain ⟨cs', hc, ht'⟩ := hi 0 (by omega)
    rw [hC] at hc
    obtain ⟨hcl, hat⟩ := cells_at hc
    have := hat 0 (cs'[0]'(by omega)) (List.getElem?_eq_getElem (by omega))
    rw [Nat.zero_mul] at this
    exact ⟨_, by simpa [Addr.add] using this⟩
  obtain ⟨u0, h0⟩ := h0
  obtain ⟨b, o, spot⟩ := a
  have hspot : spot = none := by simpa using World.cell?_spot h0
  subst hspot
  refine ⟨b, o, rfl, fun j u hu => ?_⟩
  have := hxs i x hx j u hu
  rw [show ((⟨b, o, none⟩ : Addr).add (i * k)).add j = ⟨b, o + i * k + j, none⟩ by unfold Addr.add; split <;> split <;> simp_all [Nat.add_assoc]] at this
  exact this
theorem open_flat {n k : Nat} {r : Reach} {b0 : Nat} {t : TypeId} {fs : Array Field} {v : Value} {d : DataW H} {p : List MemPlace} (hs : P.underlying t = some (.struct fs)) (hfl : flatI P n t = true) (hC : P.cellsOf t = k)
    (hv : Value.okWide P w r b0 t v) (h : DataW.Trod enc P w base spare held t v d p) : ∃ zs : List Int, zs.length = k ∧ (∀ z ∈ zs, (Lit.int .i64 z).wf = true) ∧ v = .agg (zs.map fun z => Value.int .i64 z).toArray := by
  obtain ⟨cs, rfl, hsz⟩ := okWide_struct hs hv
  obtain ⟨l⟩ := cs
  obtain ⟨fuel, hf⟩ := h
  obtain ⟨hl, hz⟩ := flat_cells hfl hf
  simp only [Value.cells] at hl hz
  obtain ⟨zs, hzl, hzs⟩ := list_of (Q := fun j z => l[j]? = some (Value.int .i64 z) ∧ (Lit.int .i64 z).wf = true) k (fun j hj => by obtain ⟨z, hz, hw⟩ := hz j (by omega); exact ⟨z, hz, hw⟩)
  refine ⟨zs, hzl, fun z hz => ?_, ?_⟩
  · obtain ⟨j, hj, rfl⟩ := List.mem_iff_getElem.1 hz
    exact (hzs j _ (List.getElem?_eq_getElem hj)).2
  congr 2
  apply List.ext_getElem?
  intro j
  rw [List.getElem?_map]
  by_cases hj : j < k
  · have := List.getElem?_eq_getElem (show j < zs.length by omega)
    rw [this]
    exact (hzs j _ this).1
  · rw [List.getElem?_eq_none (by omega), List.getElem?_eq_none (by omega)]; rfl
theorem open_slice_of {α : Type} {cs : α → List Value} {k n : Nat} {t e : TypeId} {r : Reach} {b0 : Nat} {v : Value} {d : DataW H} {p : List MemPlace} (ht : P.underlying t = some (.slice e)) (hfl : flatI P n e = true) (hC : P.cellsOf e = k) (hk : 0 < k)
    (mk : ∀ zs : List Int, zs.length = k → ∃ x : α, cs x = zs.map fun z => Value.int .i64 z) (hby : 8 ≤ P.bytesOf e) (hv : Value.okWide P w r b0 t v) (h : DataW.Trod enc P w base spare held t v d p) (hw : ∀ n ∈ d.weights P t, n ≤ reachBytes) :
    ∃ xs, Sl cs k w v xs := by
  obtain ⟨a, len, cap, rfl⟩ := okWide_slice ht hv
  obtain ⟨fuel, hf⟩ := h
  obtain ⟨v, xs, e, hs⟩ := open_flat_slice ht hfl hC hk mk hby hf hw
  simp [Value.cells] at e
  subst e
  exact ⟨xs, hs⟩
/-- A struct of two ints and two slices of flat things. -/
theorem open_sea {α β : Type} {cs : α → List Value} {ds : β → List Value} {k1 k2 n : Nat} {t e1 e2 : TypeId} {r : Reach} {b0 : Nat} {fs : Array Field} {f0 f1 f2 f3 : Field} {v : Value} {d : DataW H} {p : List MemPlace}
    (hs : P.underlying t = some (.struct fs)) (hfs : fs = #[f0, f1, f2, f3]) (hone : oneCellFields P fs = true) (hC : P.cellsOf t = 4)
    (u0 : P.underlying f0.type = some (.int .i64)) (u1 : P.underlying f1.type = some (.int .i64)) (u2 : P.underlying f2.type = some (.slice e1)) (u3 : P.underlying f3.type = some (.slice e2))
    (hf1 : flatI P n e1 = true) (hf2 : flatI P n e2 = true) (c1 : P.cellsOf e1 = k1) (c2 : P.cellsOf e2 = k2) (hk1 : 0 < k1) (hk2 : 0 < k2)
    (mk1 : ∀ zs : List Int, zs.length = k1 → ∃ x : α, cs x = zs.map fun z => Value.int .i64 z) (mk2 : ∀ zs : List Int, zs.length = k2 → ∃ x : β, ds x = zs.map fun z => Value.int .i64 z) (hb1 : 8 ≤ P.bytesOf e1) (hb2 : 8 ≤ P.bytesOf e2)
    (hv : Value.okWide P w r b0 t v) (h : DataW.Trod enc P w base spare held t v d p) (hw : ∀ n ∈ d.weights P t, n ≤ reachBytes) :
    ∃ (a b : Int) (v1 v2 : Value) (xs : List α) (ys : List β), v = .agg #[.int .i64 a, .int .i64 b, v1, v2] ∧ Sl cs k1 w v1 xs ∧ Sl ds k2 w v2 ys := by
  subst hfs
  obtain ⟨cs', rfl, hsz⟩ := okWide_struct hs hv
  obtain ⟨l⟩ := cs'
  match l, hsz.trans hC with
  | [q0, q1, q2, q3], _ =>
    obtain ⟨fuel, hf⟩ := h
    obtain ⟨xs, m, _, hx, _, hlen, hg⟩ := DataW.trod_struct hs hf
    obtain ⟨o0, k0⟩ := hone_of hone 0 f0 rfl
    obtain ⟨o1, k1'⟩ := hone_of hone 1 f1 rfl
    obtain ⟨o2, k2'⟩ := hone_of hone 2 f2 rfl
    obtain ⟨o3, k3⟩ := hone_of hone 3 f3 rfl
    match xs, hlen with
    | [y0, y1, y2, y3], _ =>
      simp only [Prod.mk.injEq] at hx
      obtain ⟨rfl, _⟩ := hx
      have g0 := hg 0 f0 rfl
      have g1 := hg 1 f1 rfl
      have g2 := hg 2 f2 rfl
      have g3 := hg 3 f3 rfl
      simp [Value.cells, o0, k0] at g0
      simp [Value.cells, o1, k1'] at g1
      simp [Value.cells, o2, k2'] at g2
      simp [Value.cells, o3, k3] at g3
      obtain ⟨z0, e0, _, _⟩ := DataW.trod_int u0 g0
      obtain ⟨z1, e1', _, _⟩ := DataW.trod_int u1 g1
      obtain ⟨w2, xs2, e2', s2⟩ := open_flat_slice (cs := cs) u2 hf1 c1 hk1 mk1 hb1 (d := y2.1) (p := y2.2) g2 (sized_part (j := 2) hs hw rfl rfl)
      obtain ⟨w3, xs3, e3', s3⟩ := open_flat_slice (cs := ds) u3 hf2 c2 hk2 mk2 hb2 (d := y3.1) (p := y3.2) g3 (sized_part (j := 3) hs hw rfl rfl)
      simp only [List.cons.injEq, and_true] at e0 e1' e2' e3'
      subst e0 e1' e2' e3'
      exact ⟨z0, z1, _, _, xs2, xs3, rfl, s2, s3⟩
end
end Go.Proofs.YtjekioabkmijbaaGreatDoor
/- What the library's variables hold, out of a row's condition; a world that meets it; the laws' arguments opened. -/
set_option linter.unusedVariables false
set_option linter.unusedSimpArgs false
namespace Go.Proofs.YtjekioabkmijbaaGreatDoor
open Go.ChangeShapes Go.WideShapes Go.RowKit Go.Lib
/-- What every row lists. -/
def laidS : List (String × DataW Unit) := [("math/bits.deBruijn32tab", Rows.laid_math_bits_deBruijn32tab), ("math/bits.deBruijn64tab", Rows.laid_math_bits_deBruijn64tab), ("internal/strconv.uint64pow10", Rows.laid_internal_strconv_uint64pow10), ("unicode/utf8.acceptRanges", Rows.laid_unicode_utf8_acceptRanges), ("strconv.ErrRange", Rows.laid_strconv_ErrRange), ("strconv.ErrSyntax", Rows.laid_strconv_ErrSyntax), ("unicode/utf8.first", Rows.laid_unicode_utf8_first)]
theorem gPow : Tryz.prog.globalNamed "internal/strconv.uint64pow10" = some 1 := by kernel_rfl
theorem gSyn : Tryz.prog.globalNamed "strconv.ErrSyntax" = some 2 := by kernel_rfl
theorem gRan : Tryz.prog.globalNamed "strconv.ErrRange" = some 3 := by kernel_rfl
theorem tPow : (Tryz.prog.globals[1]?).map (·.type) = some 276 := by kernel_rfl
theorem tSyn : (Tryz.prog.globals[2]?).map (·.type) = some 213 := by kernel_rfl
theorem tRan : (Tryz.prog.globals[3]?).map (·.type) = some 213 := by kernel_rfl
theorem powData : (Rows.laid_internal_strconv_uint64pow10 : DataW Unit) = tabData .u64 Lib.pow10Tab := by kernel_rfl
theorem cell_of_one {W : World} {name : String} {g : Nat} {cs : Array Value} {v : Value} (hg : Tryz.prog.globalNamed name = some g) (hv : W.var? Tryz.prog name = some cs) (hcs : cs.toList = [v]) : W.cell? ⟨g, 0, none⟩ = some v := by
  have := World.var?_cell hg hv 0
  rw [Array.eq_one_of_toList hcs] at this
  simpa using this
theorem env_of_laid {W : World} (hL : laidMetH Tryz.prog laidS W) (hsh : W.ShapedOpen Tryz.prog) : Env W := by
  rw [MakeChecks.laidMetH_plain _ _ _ (by kernel_rfl)] at hL
  refine ⟨cell_of_shapedOpen_int (P := Tryz.prog) (g := 0) (t := 3) (zero := #[.int .i64 0]) hsh (of_decide_eq_true (by kernel_rfl)) (by kernel_rfl) rfl (by kernel_rfl) (by kernel_rfl) Tryz.underlying3, ?_, ?_, ?_⟩
  · obtain ⟨g, t, cs, fuel, p, hg, hty, hvar, hd⟩ := Lib.laidMet.reads hL (n := "internal/strconv.uint64pow10") (d := Rows.laid_internal_strconv_uint64pow10) (by simp [laidS])
    obtain rfl := Option.some.inj (gPow.symm.trans hg)
    obtain rfl := Option.some.inj (tPow.symm.trans hty)
    rw [powData] at hd
    have := cells_of_tab Tryz.underlying276 Tryz.underlying113 (by kernel_rfl) (by kernel_rfl) hd
    unfold Lib.TabIs
    rw [hvar, ← this]
  · obtain ⟨g, t, cs, fuel, p, hg, hty, hvar, hd⟩ := Lib.laidMet.reads hL (n := "strconv.ErrSyntax") (d := Rows.laid_strconv_ErrSyntax) (by simp [laidS])
    obtain rfl := Option.some.inj (gSyn.symm.trans hg)
    obtain rfl := Option.some.inj (tSyn.symm.trans hty)
    obtain ⟨f1, u, v, hcs, _, _⟩ := iface_of_trod Tryz.underlying213 hd
    exact ⟨u, v, cell_of_one gSyn hvar hcs⟩
  · obtain ⟨g, t, cs, fuel, p, hg, hty, hvar, hd⟩ := Lib.laidMet.reads hL (n := "strconv.ErrRange") (d := Rows.laid_strconv_ErrRange) (by simp [laidS])
    obtain rfl := Option.some.inj (gRan.symm.trans hg)
    obtain rfl := Option.some.inj (tRan.symm.trans hty)
    obtain ⟨f1, u, v, hcs, _, _⟩ := iface_of_trod Tryz.underlying213 hd
    exact ⟨u, v, cell_of_one gRan hvar hcs⟩
end Go.Proofs.YtjekioabkmijbaaGreatDoor
/- The laws' arguments, opened. -/
set_option linter.unusedVariables false
set_option linter.unusedSimpArgs false
namespace Go.Proofs.YtjekioabkmijbaaGreatDoor
open Go.ChangeShapes Go.WideShapes Go.RowKit Go.Lib
theorem own : ownKnob Tryz.prog.godebug = none := by kernel_rfl
theorem laidOutA : laidOutB Tryz.prog = true := by kernel_rfl
theorem mkInt (zs : List Int) (h : zs.length = 1) : ∃ x : Int, intCs x = zs.map fun z => Value.int .i64 z := by
  match zs, h with
  | [a], _ => exact ⟨a, rfl⟩
theorem mkTide (zs : List Int) (h : zs.length = 2) : ∃ x : DTide, DTide.cs x = zs.map fun z => Value.int .i64 z := by
  match zs, h with
  | [a, b], _ => exact ⟨⟨a, b⟩, rfl⟩
theorem mkPlace (zs : List Int) (h : zs.length = 2) : ∃ x : DPlace, DPlace.cs x = zs.map fun z => Value.int .i64 z := by
  match zs, h with
  | [a, b], _ => exact ⟨⟨a, b⟩, rfl⟩
theorem mkWind (zs : List Int) (h : zs.length = 9) : ∃ x : DWind, DWind.cs x = zs.map fun z => Value.int .i64 z := by
  match zs, h with
  | [a, b, c, d, e, f, g, i, j], _ => exact ⟨⟨a, b, c, d, e, f, g, i, j⟩, rfl⟩
theorem mkLoss (zs : List Int) (h : zs.length = 7) : ∃ x : DLoss, DLoss.cs x = zs.map fun z => Value.int .i64 z := by
  match zs, h with
  | [a, b, c, d, e, f, g], _ => exact ⟨⟨a, b, c, d, e, f, g⟩, rfl⟩
set_option maxRecDepth 100000 in
theorem fl3 : flatI Tryz.prog 3 3 = true := by kernel_rfl
set_option maxRecDepth 100000 in
theorem fl138 : flatI Tryz.prog 3 138 = true := by kernel_rfl
set_option maxRecDepth 100000 in
theorem fl48 : flatI Tryz.prog 3 48 = true := by kernel_rfl
set_option maxRecDepth 100000 in
theorem fl53 : flatI Tryz.prog 3 53 = true := by kernel_rfl
set_option maxRecDepth 100000 in
theorem fl30 : flatI Tryz.prog 3 30 = true := by kernel_rfl
theorem co3 : Tryz.prog.cellsOf 3 = 1 := by kernel_rfl
theorem co138 : Tryz.prog.cellsOf 138 = 2 := by kernel_rfl
theorem co48 : Tryz.prog.cellsOf 48 = 2 := by kernel_rfl
theorem co53 : Tryz.prog.cellsOf 53 = 9 := by kernel_rfl
theorem co30 : Tryz.prog.cellsOf 30 = 7 := by kernel_rfl
theorem by3 : 8 ≤ Tryz.prog.bytesOf 3 := of_decide_eq_true (by kernel_rfl)
theorem by138 : 8 ≤ Tryz.prog.bytesOf 138 := of_decide_eq_true (by kernel_rfl)
theorem by53 : 8 ≤ Tryz.prog.bytesOf 53 := of_decide_eq_true (by kernel_rfl)
theorem by30 : 8 ≤ Tryz.prog.bytesOf 30 := of_decide_eq_true (by kernel_rfl)
theorem by48 : 8 ≤ Tryz.prog.bytesOf 48 := of_decide_eq_true (by kernel_rfl)
section
variable {H : Type} {enc : TypeId × Value → H} {w : World} {base : Nat} {spare : Nat → Bool} {held : Bool} {r : Reach} {b0 : Nat} {v : Value} {d : DataW H} {p : List MemPlace}
set_option maxRecDepth 100000 in
theorem openSea (hv : Value.okWide Tryz.prog w r b0 25 v) (h : DataW.Trod enc Tryz.prog w base spare held 25 v d p) (hw : ∀ n ∈ d.weights Tryz.prog 25, n ≤ reachBytes) :
    ∃ (s : DSea) (vh vt : Value), v = .agg #[iv s.cells, iv s.bands, vh, vt] ∧ Sl intCs 1 w vh s.hts ∧ Sl DTide.cs 2 w vt s.tds := by
  obtain ⟨a, b, v1, v2, xs, ys, rfl, h1, h2⟩ := open_sea (n := 3) (cs := intCs) (ds := DTide.cs) (k1 := 1) (k2 := 2) Tryz.underlying25 rfl (by kernel_rfl) (by kernel_rfl) Tryz.underlying3 Tryz.underlying3 Tryz.underlying22 Tryz.underlying23 fl3 fl138 co3 co138 (by decide) (by decide) mkInt mkTide by3 by138 hv h hw
  exact ⟨⟨a, b, xs, ys⟩, v1, v2, rfl, h1, h2⟩
set_option maxRecDepth 100000 in
theorem openWinds (hv : Value.okWide Tryz.prog w r b0 26 v) (h : DataW.Trod enc Tryz.prog w base spare held 26 v d p) (hw : ∀ n ∈ d.weights Tryz.prog 26, n ≤ reachBytes) : ∃ l : List DWind, Sl DWind.cs 9 w v l :=
  open_slice_of (n := 3) Tryz.underlying26 fl53 co53 (by decide) mkWind by53 hv h hw
set_option maxRecDepth 100000 in
theorem openLosses (hv : Value.okWide Tryz.prog w r b0 87 v) (h : DataW.Trod enc Tryz.prog w base spare held 87 v d p) (hw : ∀ n ∈ d.weights Tryz.prog 87, n ≤ reachBytes) : ∃ l : List DLoss, Sl DLoss.cs 7 w v l :=
  open_slice_of (n := 3) Tryz.underlying87 fl30 co30 (by decide) mkLoss by30 hv h hw
set_option maxRecDepth 100000 in
theorem openWind (hv : Value.okWide Tryz.prog w r b0 53 v) (h : DataW.Trod enc Tryz.prog w base spare held 53 v d p) : ∃ x : DWind, v = windV x := by
  obtain ⟨zs, hl, _, rfl⟩ := open_flat (n := 3) (k := 9) Tryz.underlying53 fl53 co53 hv h
  match zs, hl with
  | [a, b, c, d, e, f, g, i, j], _ => exact ⟨⟨a, b, c, d, e, f, g, i, j⟩, rfl⟩
set_option maxRecDepth 100000 in
theorem openLoss (hv : Value.okWide Tryz.prog w r b0 30 v) (h : DataW.Trod enc Tryz.prog w base spare held 30 v d p) : ∃ x : DLoss, v = lossV x := by
  obtain ⟨zs, hl, _, rfl⟩ := open_flat (n := 3) (k := 7) Tryz.underlying30 fl30 co30 hv h
  match zs, hl with
  | [a, b, c, d, e, f, g], _ => exact ⟨⟨a, b, c, d, e, f, g⟩, rfl⟩
set_option maxRecDepth 100000 in
theorem openPlace (hv : Value.okWide Tryz.prog w r b0 48 v) (h : DataW.Trod enc Tryz.prog w base spare held 48 v d p) : ∃ x : DPlace, v = placeV x := by
  obtain ⟨zs, hl, _, rfl⟩ := open_flat (n := 3) (k := 2) Tryz.underlying48 fl48 co48 hv h
  match zs, hl with
  | [a, b], _ => exact ⟨⟨a, b⟩, rfl⟩
end
theorem u8_bounds {n : Int} (h : (Lit.int .u8 n).wf = true) : 0 ≤ n ∧ n ≤ 255 := by
  simpa [Lit.wf, IntKind.min, IntKind.max, IntKind.signed, IntKind.bits] using h
theorem plain_all : ([25, 26, 53, 3, 30, 5, 48, 87, 9, 95, 98].all fun u => !Tryz.prog.wantsStandIn u) = true := by kernel_rfl
theorem plain_params {t : TypeId} (hm : t ∈ [25, 26, 53, 3, 30, 5, 48, 87, 9, 95, 98]) : Tryz.prog.wantsStandIn t = false := by simpa using List.all_eq_true.1 plain_all t hm
end Go.Proofs.YtjekioabkmijbaaGreatDoor
