/- Ranges over functions without a stop, whose state lies in blocks that were there before them: outermost and nested. -/
import Derived.Test.YtjekioabkmijbaaGreatDoorZ04
set_option linter.unusedVariables false
set_option linter.unusedSimpArgs false
namespace Go.Proofs.YtjekioabkmijbaaGreatDoor
open Go.RowKit
theorem Iter.wide {α : Type} {P : Program} {gf : Nat} {mk : Value → Array Value} {encs : α → Array Value} {xs : List α} {K K' : Nat → Prop} {w : World} (h : Iter P gf mk encs xs K w) (hk : ∀ b, K b → K' b) : Iter P gf mk encs xs K' w := by
  intro l J Jx W0 hw h1 h2 h3 h4 hY h0
  refine h l J Jx W0 (hw.mono fun b _ hb => hk b hb) h1 h2 h3 h4 ?_ h0
  intro X pre x W1 hX hJ hp
  obtain ⟨fn, tmps, assign, body, hy, hr⟩ := hY X pre x W1 hX hJ hp
  refine ⟨fn, tmps, assign, body, hy, hr.mono ?_⟩
  rintro e W2 (⟨he, hj, hf⟩ | hq)
  · exact .inl ⟨he, hj, hf.mono fun b _ hb => hb.imp id (hk b)⟩
  · exact .inr hq
/-- A round that may not be left but at its end. -/
def onPost {α : Type} (N : Nat) (K : Nat → Prop) (I : List α → World → Prop) (xs : List α) (W : World) : Exit → Act → World → Prop
  | .normal, _, W' => I xs W' ∧ Fix (fun b => N ≤ b ∨ K b) W W'
  | _, _, _ => False
theorem wp_iter0t {α : Type} {P : Program} {g : Operand} {ps : Array Tmp} {assign body : Code} {Q : Exit → Act → World → Prop} {a : Act} {w : World}
    {encs : α → Array Value} {gf : Nat} {mk : Value → Array Value} {xs : List α} {K : Nat → Prop} {w0 : World} (hcall : CallsAs P (a.eval g) gf mk)
    (hit : Iter P gf mk encs xs K w0) (hw : Fix K w0 w) (hps : ∀ x, (encs x).size = ps.size) (hK : ∀ b, K b → b < w.heap.size)
    (I : List α → World → Prop)
    (hI : ∀ pre W W', I pre W → w.heap.size ≤ W.heap.size → Fix (fun b => b < w.heap.size) W W' → I pre W')
    (h0 : I [] w)
    (hround : ∀ l pre x W, w.heap.size ≤ l → l < W.heap.size → w.heap.size ≤ W.heap.size → I pre W → (pre ++ [x]) <+: xs → Fix K w W →
      assign.wpIn (FW (some l)) 0 P (Exit.then (fun a₁ W₁ => Below W.heap.size W W₁ ∧ ∀ W₂, Fix (fun b => b ≠ l) W₁ W₂ → W₁.heap.size = W₂.heap.size → (∃ r, W₂.heap[l]? = some (.loop r)) → body.wpIn (FW (some l)) 0 P (onPost w.heap.size K I (pre ++ [x]) W₂) a₁ W₂) (fun _ _ _ => False))
        { tmps := (ps.zip (encs x)).foldl (fun t (p, v) => t.setIfInBounds p v) a.tmps, defers := [] } W)
    (hdone : ∀ W, I xs W → w.heap.size ≤ W.heap.size → Fix K w W → W.heap[w.heap.size]? = some (.deferred (some [])) → Q .normal { a with defers := { target := .collected w.heap.size, args := #[] } :: a.defers } W) :
    (Code.rangeFunc g ps assign body).wp P Q a w := by
  have nb : ∀ {X : Nat → Prop}, (∀ b, X b → w.heap.size ≤ b) → ∀ b, b < w.heap.size → ¬ X b := fun h b hb hx => by have := h b hx; omega
  refine wp_iter0 hcall hit hw hps hK
    (fun X pre W => (∀ b, X b → w.heap.size ≤ b) ∧ w.heap.size ≤ W.heap.size ∧ I pre W)
    (fun c X pre W => False) ?_ ?_ ?_ ?_ ⟨fun b h => h.elim, Nat.le_refl _, h0⟩ ?_ ?_ ?_
  · rintro X pre W W' ⟨h1, h2, h3⟩ hf
    exact ⟨h1, Nat.le_trans h2 hf.size, hI _ _ _ h3 h2 (hf.mono fun b _ hb => nb h1 b hb)⟩
  · rintro X X' pre W ⟨h1, h2, h3⟩ hx
    exact ⟨fun b hb => (hx b hb).elim (h1 b) (Nat.le_trans h2), h2, h3⟩
  · exact fun c X pre W W' h _ => h
  · exact fun c X X' pre W h _ => h
  · rintro l Y pre x W hYl hY ⟨r, hr, hrd⟩ ⟨h1, h2, h3⟩ hp hf
    refine wpIn_mono (hround l pre x W (h1 l hYl) (blk_lt hr) h2 h3 hp hf) ?_
    rintro e a1 W1 hq
    cases e with
    | normal =>
      obtain ⟨hb, hq⟩ := hq
      refine ⟨Fix.of_below hb, fun W2 hf2 hsz hr2 => wpIn_mono (hq W2 hf2 hsz (hr2.imp fun _ h => h.1)) ?_⟩
      have hs2 : w.heap.size ≤ W2.heap.size := by have := hb.size; omega
      rintro e a3 W3 hq3
      cases e with
      | normal => exact ⟨⟨h1, Nat.le_trans hs2 hq3.2.size, hq3.1⟩, hq3.2.mono fun b _ h => h.imp (h1 b) id⟩
      | ret => exact hq3.elim
      | exit id => exact hq3.elim
      | goto t => exact hq3.elim
      | panic ch => exact hq3.elim
      | outgrown => exact hq3.elim
    | exit id => exact hq.elim
    | goto t => exact hq.elim
    | ret => exact hq.elim
    | panic ch => exact hq.elim
    | outgrown => exact hq.elim
  · rintro W ⟨_, h2, h3⟩ hf hd
    exact hdone W h3 h2 hf hd
  · rintro c pre W hp h _
    exact h.elim
theorem wp_iterNt {α : Type} {l₀ : Nat} {r₀ : Loop} {P : Program} {g : Operand} {ps : Array Tmp} {assign body : Code} {Q : Exit → Act → World → Prop} {a : Act} {w : World}
    {encs : α → Array Value} {gf : Nat} {mk : Value → Array Value} {xs : List α} {K : Nat → Prop} {w0 : World} (hcall : CallsAs P (a.eval g) gf mk)
    (hr₀ : w.heap[l₀]? = some (.loop r₀)) (hit : Iter P gf mk encs xs K w0) (hw : Fix K w0 w) (hps : ∀ x, (encs x).size = ps.size) (hK : ∀ b, K b → b < w.heap.size)
    (I : List α → World → Prop)
    (hI : ∀ pre W W', I pre W → w.heap.size ≤ W.heap.size → Fix (fun b => b < w.heap.size) W W' → I pre W')
    (h0 : I [] w)
    (hround : ∀ l pre x W, w.heap.size ≤ l → l < W.heap.size → w.heap.size ≤ W.heap.size → I pre W → (pre ++ [x]) <+: xs → Fix K w W →
      assign.wpIn (FW (some l)) 0 P (Exit.then (fun a₁ W₁ => Below W.heap.size W W₁ ∧ ∀ W₂, Fix (fun b => b ≠ l) W₁ W₂ → W₁.heap.size = W₂.heap.size → (∃ r, W₂.heap[l]? = some (.loop r)) → body.wpIn (FW (some l)) 0 P (onPost w.heap.size K I (pre ++ [x]) W₂) a₁ W₂) (fun _ _ _ => False))
        { tmps := (ps.zip (encs x)).foldl (fun t (p, v) => t.setIfInBounds p v) a.tmps, defers := [] } W)
    (hdone : ∀ W, I xs W → Fix K w W → Q .normal a W) :
    (Code.rangeFunc g ps assign body).wpIn (FW (some l₀)) 0 P Q a w := by
  have nb : ∀ {X : Nat → Prop}, (∀ b, X b → w.heap.size ≤ b) → ∀ b, b < w.heap.size → ¬ X b := fun h b hb hx => by have := h b hx; omega
  refine wp_iterN hcall hr₀ hit hw hps hK
    (fun X pre W => (∀ b, X b → w.heap.size ≤ b) ∧ w.heap.size ≤ W.heap.size ∧ I pre W)
    (fun c X pre W => False) ?_ ?_ ?_ ?_ ⟨fun b h => h.elim, Nat.le_refl _, h0⟩ ?_ ?_ ?_
  · rintro X pre W W' ⟨h1, h2, h3⟩ hf
    exact ⟨h1, Nat.le_trans h2 hf.size, hI _ _ _ h3 h2 (hf.mono fun b _ hb => nb h1 b hb)⟩
  · rintro X X' pre W ⟨h1, h2, h3⟩ hx
    exact ⟨fun b hb => (hx b hb).elim (h1 b) (Nat.le_trans h2), h2, h3⟩
  · exact fun c X pre W W' h _ => h
  · exact fun c X X' pre W h _ => h
  · rintro l Y pre x W hYl hY ⟨r, hr, hrd⟩ ⟨h1, h2, h3⟩ hp hf
    refine wpIn_mono (hround l pre x W (h1 l hYl) (blk_lt hr) h2 h3 hp hf) ?_
    rintro e a1 W1 hq
    cases e with
    | normal =>
      obtain ⟨hb, hq⟩ := hq
      refine ⟨Fix.of_below hb, fun W2 hf2 hsz hr2 => wpIn_mono (hq W2 hf2 hsz (hr2.imp fun _ h => h.1)) ?_⟩
      have hs2 : w.heap.size ≤ W2.heap.size := by have := hb.size; omega
      rintro e a3 W3 hq3
      cases e with
      | normal => exact ⟨⟨h1, Nat.le_trans hs2 hq3.2.size, hq3.1⟩, hq3.2.mono fun b _ h => h.imp (h1 b) id⟩
      | ret => exact hq3.elim
      | exit id => exact hq3.elim
      | goto t => exact hq3.elim
      | panic ch => exact hq3.elim
      | outgrown => exact hq3.elim
    | exit id => exact hq.elim
    | goto t => exact hq.elim
    | ret => exact hq.elim
    | panic ch => exact hq.elim
    | outgrown => exact hq.elim
  · rintro W ⟨_, h2, h3⟩ hf
    exact hdone W h3 hf
  · rintro c pre W hp h
    exact h.elim
end Go.Proofs.YtjekioabkmijbaaGreatDoor
