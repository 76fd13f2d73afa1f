/- A range over a function: the iterator by a contract over a list, the loop by an invariant that leaves room for others' blocks. -/
import Derived.Test.YtjekioabkmijbaaGreatDoorZ01
import Derived.RangeFuncNested
import Derived.RangeFuncBound
import Derived.RangeFuncCalls
import Derived.RangeFuncLeaves
set_option linter.unusedVariables false
set_option linter.unusedSimpArgs false
namespace Go.Proofs.YtjekioabkmijbaaGreatDoor
open Go.RowKit
/-- The blocks of K are as they were; none has gone. -/
structure Fix (K : Nat → Prop) (W W' : World) : Prop where
  os : W'.os = W.os
  tape : W'.tape = W.tape
  output : W'.output = W.output
  size : W.heap.size ≤ W'.heap.size
  block : ∀ b, b < W.heap.size → K b → W'.heap[b]? = W.heap[b]?
section
variable {K K' : Nat → Prop} {A B C : World}
theorem Fix.refl (K : Nat → Prop) (A : World) : Fix K A A := ⟨rfl, rfl, rfl, Nat.le_refl _, fun _ _ _ => rfl⟩
theorem Fix.trans (h : Fix K A B) (k : Fix K B C) : Fix K A C :=
  ⟨k.os.trans h.os, k.tape.trans h.tape, k.output.trans h.output, Nat.le_trans h.size k.size, fun b hb hk => (k.block b (Nat.lt_of_lt_of_le hb h.size) hk).trans (h.block b hb hk)⟩
theorem Fix.mono (h : Fix K A B) (hk : ∀ b, b < A.heap.size → K' b → K b) : Fix K' A B := ⟨h.os, h.tape, h.output, h.size, fun b hb hK => h.block b hb (hk b hb hK)⟩
theorem Fix.alloc (h : Fix K A B) (o : Obj) : Fix K A (B.alloc o) :=
  h.trans ⟨rfl, rfl, rfl, by simp, fun b hb _ => Below.heap_alloc _ _ _ hb⟩
theorem Fix.drew (h : Fix K A B) : Fix K A B.drew := ⟨h.os, h.tape, h.output, h.size, h.block⟩
theorem Fix.drewN (h : Fix K A B) (n : Nat) : Fix K A (B.drewN n) := ⟨h.os, h.tape, h.output, h.size, h.block⟩
theorem Fix.setCell (h : Fix K A B) {p : Addr} (hp : p.block < A.heap.size → ¬ K p.block) (u : Value) : Fix K A (B.setCell p u) :=
  ⟨h.os, h.tape, h.output, by have := h.size; simpa [World.setCell] using this, fun b hb hk => (Below.heap_setCell _ _ _ _ (fun e => hp (e ▸ hb) (e ▸ hk))).trans (h.block b hb hk)⟩
theorem Fix.below (h : Fix K A B) (k : Below B.heap.size B C) : Fix K A C :=
  h.trans ⟨k.os, k.tape, k.output, k.size, fun b hb _ => k.block b hb⟩
theorem Fix.of_below (k : Below A.heap.size A B) : Fix K A B := (Fix.refl K A).below k
theorem Fix.grown {row : Option Nat} (h : Fix K A B) (k : B.grownBy C row) (hr : ∀ b, row = some b → b < A.heap.size → ¬ K b) : Fix K A C :=
  ⟨k.os.trans h.os, k.tape.trans h.tape, k.output.trans h.output, Nat.le_trans h.size k.size, fun b hb hk => (k.block b (Nat.lt_of_lt_of_le hb h.size) (fun e => hr b e.symm hb hk)).trans (h.block b hb hk)⟩
theorem Fix.put (h : Fix K A B) {l : Nat} (hl : l < A.heap.size → ¬ K l) (o : Obj) : Fix K A (B.putObj l o) :=
  ⟨h.os, h.tape, h.output, by have := h.size; simpa using this, fun b hb hk => (World.putObj_heap_other (fun e => by subst e; exact hl hb hk)).trans (h.block b hb hk)⟩
theorem Fix.blk {o : Obj} {b : Nat} (h : Fix K A B) (hA : A.heap[b]? = some o) (hk : K b) : B.heap[b]? = some o := (h.block b (blk_lt hA) hk).trans hA
end
theorem bl_fix {B N : Nat} {A C D : World} (h : Below B A C) (hB : B ≤ A.heap.size) (hN : B ≤ N) (k : Fix (fun b => b < N) C D) : Below B A D :=
  ⟨k.os.trans h.os, k.tape.trans h.tape, k.output.trans h.output, Nat.le_trans h.size k.size, fun b hb => (k.block b (by have := h.size; omega) (by omega)).trans (h.block b hb)⟩
theorem Fix.to_below {N : Nat} {A C : World} (k : Fix (fun b => b < N) A C) (hN : N ≤ A.heap.size) : Below N A C := ⟨k.os, k.tape, k.output, k.size, fun b hb => k.block b (by omega) hb⟩
theorem Fix.put_ne {l : Nat} {A C : World} (k : Fix (fun b => b ≠ l) A C) {o : Obj} {b : Nat} (h : A.heap[b]? = some o) (hb : b ≠ l) : C.heap[b]? = some o := k.blk h hb
/-- The fence that lets all in, within a round of loop r or outside every round. -/
abbrev FW (r : Option Nat) : Fence := { Fence.wide with round := r }
theorem FW_none : FW none = Fence.wide := rfl
theorem callsW {r : Option Nat} {n : Nat} {P : Program} {f : FuncId} {args : Array Value} {w : World} {R : Ending → World → Prop} : CallsIn (FW r) n P f args w R ↔ Calls P f args w R := callsIn_wide (n := n)
/-- What an iterator does: it hands the elements of xs on, one behind the other, till a round says 'no more'. K: what it reads; X: blocks that are its own. -/
def Iter {α : Type} (P : Program) (gf : Nat) (mk : Value → Array Value) (encs : α → Array Value) (xs : List α) (K : Nat → Prop) (w : World) : Prop :=
  ∀ (l : Nat) (J Jx : (Nat → Prop) → List α → World → Prop) (W0 : World),
    Fix K w W0 →
    (∀ X pre W W', J X pre W → Fix (fun b => ¬ X b) W W' → J X pre W') →
    (∀ X X' pre W, J X pre W → (∀ b, X' b → X b ∨ W.heap.size ≤ b) → J X' pre W) →
    (∀ X pre W W', Jx X pre W → Fix (fun b => ¬ X b) W W' → Jx X pre W') →
    (∀ X X' pre W, Jx X' pre W → (∀ b, X b → X' b) → Jx X pre W) →
    (∀ X pre x W1, (∀ b, X b → W0.heap.size ≤ b ∧ b < W1.heap.size) → J X pre W1 → (pre ++ [x]) <+: xs →
      YieldAt (FW none) 0 P l (encs x) W1 fun e W2 =>
        (e = .returned (.bool true) ∧ J X (pre ++ [x]) W2 ∧ Fix (fun b => X b ∨ K b) W1 W2) ∨ (e = .returned (.bool false) ∧ Jx X (pre ++ [x]) W2)) →
    J (fun _ => False) [] W0 →
    CallsIn (FW none) 0 P gf (mk (.func (.yield l) #[] #[])) W0 fun e W' => (∃ v, e = .returned v) ∧ (J (fun _ => False) xs W' ∨ ∃ pre, pre <+: xs ∧ Jx (fun _ => False) pre W')
/-- How the body of a round may be left. -/
def rndPost {α : Type} (K : Nat → Prop) (I : (Nat → Prop) → List α → World → Prop) (Ix : Code → (Nat → Prop) → List α → World → Prop) (Y : Nat → Prop) (xs : List α) (W : World) : Exit → Act → World → Prop
  | .normal, _, W' => I Y xs W' ∧ Fix (fun b => Y b ∨ K b) W W'
  | .ret, _, W' => Ix .ret Y xs W' ∧ Fix Y W W'
  | .exit id, _, W' => Ix (.exit id) Y xs W' ∧ Fix Y W W'
  | .goto t, _, W' => Ix (.goto t) Y xs W' ∧ Fix Y W W'
  | .panic _, _, _ => False
  | .outgrown, _, _ => False
theorem iter_core {α : Type} {P : Program} {ps : Array Tmp} {assign body : Code} {a : Act} {fn D : Nat}
    {encs : α → Array Value} {gf : Nat} {mk : Value → Array Value} {xs : List α} {K : Nat → Prop} {w0 w1 : World} {base l : Nat}
    (hit : Iter P gf mk encs xs K w0) (hw : Fix K w0 w1) (rec : LoopState → Option Code → Loop) (hrec : rec = fun st pe => { state := st, pending := pe, fn, tmps := a.tmps, params := ps, assign, body, defers := D })
    (hl : w1.heap[l]? = some (.loop (rec .ready none))) (Z : Nat → Prop) (hZl : Z l) (hZ : ∀ b, Z b → base ≤ b ∧ b < w1.heap.size) (hps : ∀ x, (encs x).size = ps.size) (hK : ∀ b, K b → b < base)
    (I : (Nat → Prop) → List α → World → Prop) (Ix : Code → (Nat → Prop) → List α → World → Prop)
    (hI : ∀ X pre W W', I X pre W → Fix (fun b => ¬ X b) W W' → I X pre W')
    (hE : ∀ X X' pre W, I X pre W → (∀ b, X' b → X b ∨ W.heap.size ≤ b) → I X' pre W)
    (hIx : ∀ c X pre W W', Ix c X pre W → Fix (fun b => ¬ X b) W W' → Ix c X pre W')
    (hS : ∀ c X X' pre W, Ix c X' pre W → (∀ b, X b → X' b) → Ix c X pre W)
    (h0 : I Z [] w1)
    (hround : ∀ Y pre x W, Y l → (∀ b, Z b → Y b) → (∀ b, Y b → base ≤ b ∧ b < W.heap.size) → (∃ r, W.heap[l]? = some (.loop r) ∧ r.defers = D) → I Y pre W → (pre ++ [x]) <+: xs → Fix K w1 W →
      assign.wpIn (FW (some l)) 0 P (Exit.then (fun a₁ W₁ => Fix (fun b => Y b ∨ K b) W W₁ ∧ ∀ W₂, Fix (fun b => b ≠ l) W₁ W₂ → W₁.heap.size = W₂.heap.size → (∃ r, W₂.heap[l]? = some (.loop r) ∧ r.defers = D) → body.wpIn (FW (some l)) 0 P (rndPost K I Ix Y (pre ++ [x]) W₂) a₁ W₂) (fun _ _ _ => False))
        { tmps := (ps.zip (encs x)).foldl (fun t (p, v) => t.setIfInBounds p v) a.tmps, defers := [] } W) :
    CallsIn (FW none) 0 P gf (mk (.func (.yield l) #[] #[])) w1 fun e W' => (∃ v, e = .returned v) ∧
      ((I Z xs W' ∧ Fix K w1 W' ∧ Fix (fun b => Z b ∧ b ≠ l) w1 W' ∧ W'.heap[l]? = some (.loop (rec .ready none))) ∨ ∃ pre c, pre <+: xs ∧ Ix c Z pre W' ∧ Fix (fun b => Z b ∧ b ≠ l) w1 W' ∧ W'.heap[l]? = some (.loop (rec .done (some c)))) := by
  have hll := blk_lt hl
  have hKl : ¬ K l := fun h => by have := hK l h; have := (hZ l hZl).1; omega
  refine (hit l
    (fun X pre W => I (fun b => X b ∨ Z b) pre W ∧ (∀ b, X b → w1.heap.size ≤ b) ∧ Fix (fun b => Z b ∧ b ≠ l) w1 W ∧ Fix K w1 W ∧ W.heap[l]? = some (.loop (rec .ready none)))
    (fun X pre W => ∃ c, Ix c (fun b => X b ∨ Z b) pre W ∧ (∀ b, X b → w1.heap.size ≤ b) ∧ Fix (fun b => Z b ∧ b ≠ l) w1 W ∧ W.heap[l]? = some (.loop (rec .done (some c)))) w1 hw ?_ ?_ ?_ ?_ ?_ ?_).mono ?_
  · rintro X pre W W' ⟨hi, hX, hZf, hKf, hr⟩ hf
    have hXl : ¬ X l := fun h => by have := hX l h; omega
    refine ⟨hI _ _ _ _ hi (hf.mono fun b _ h h' => h (.inl h')), hX, ⟨hf.os.trans hZf.os, hf.tape.trans hZf.tape, hf.output.trans hZf.output, Nat.le_trans hZf.size hf.size, fun b hb hz => ?_⟩, ⟨hf.os.trans hKf.os, hf.tape.trans hKf.tape, hf.output.trans hKf.output, Nat.le_trans hKf.size hf.size, fun b hb hz => ?_⟩, hf.blk hr hXl⟩
    · exact (hf.block b (Nat.lt_of_lt_of_le hb hZf.size) (fun h => by have := hX b h; omega)).trans (hZf.block b hb hz)
    · exact (hf.block b (Nat.lt_of_lt_of_le hb hKf.size) (fun h => by have := hX b h; omega)).trans (hKf.block b hb hz)
  · rintro X X' pre W ⟨hi, hX, hZf, hKf, hr⟩ hx
    refine ⟨hE _ _ _ _ hi (fun b hb => ?_), fun b hb => ?_, hZf, hKf, hr⟩
    · rcases hb with hb | hb
      · rcases hx b hb with h | h
        · exact .inl (.inl h)
        · exact .inr h
      · exact .inl (.inr hb)
    · rcases hx b hb with h | h
      · exact hX b h
      · exact Nat.le_trans hZf.size h
  · rintro X pre W W' ⟨c, hi, hX, hZf, hr⟩ hf
    have hXl : ¬ X l := fun h => by have := hX l h; omega
    refine ⟨c, hIx _ _ _ _ _ hi (hf.mono fun b _ h h' => h (.inl h')), hX, ⟨hf.os.trans hZf.os, hf.tape.trans hZf.tape, hf.output.trans hZf.output, Nat.le_trans hZf.size hf.size, fun b hb hz => ?_⟩, hf.blk hr hXl⟩
    exact (hf.block b (Nat.lt_of_lt_of_le hb hZf.size) (fun h => by have := hX b h; omega)).trans (hZf.block b hb hz)
  · rintro X X' pre W ⟨c, hi, hX, hZf, hr⟩ hx
    exact ⟨c, hS _ _ _ _ _ hi (fun b hb => hb.imp (hx b) id), fun b hb => hX b (hx b hb), hZf, hr⟩
  · rintro X pre x W1 hX ⟨hi, hXw, hZf, hKf, hr⟩ hpre
    have hll1 := blk_lt hr
    have hY : ∀ b, (X b ∨ Z b) → base ≤ b ∧ b < W1.heap.size := fun b hb => by
      rcases hb with hb | hb
      · have h1 := hX b hb; have h2 := (hZ l hZl).1; exact ⟨by omega, h1.2⟩
      · exact ⟨(hZ b hb).1, Nat.lt_of_lt_of_le (hZ b hb).2 hZf.size⟩
    have hy := run_yield (P := P) (args := encs x) hr (by rw [hrec]; exact hps x)
    rw [hrec] at hy
    refine ⟨fn, _, assign, body, hy, ?_⟩
    have hrd := hround (fun b => X b ∨ Z b) pre x W1 (.inr hZl) (fun b h => .inr h) hY ⟨_, hr, by rw [hrec]⟩ hi hpre hKf
    refine roundIn_of_wpIn (F := FW none) trivial (wpIn_mono hrd ?_)
    rintro e a1 W2 hp
    cases e with
    | normal =>
      obtain ⟨hf1, hbody⟩ := hp
      have hr2 : W2.heap[l]? = some (.loop (rec .ready none)) := hf1.blk hr (.inl (.inr hZl))
      refine ⟨_, run_beginRound hr2 (by rw [hrec]), ?_⟩
      have hlt2 := blk_lt hr2
      have hr3 : (W2.putObj l (.loop { rec .ready none with state := .busy })).heap[l]? = some (.loop { rec .ready none with state := .busy }) := World.putObj_heap_same hlt2
      refine wpIn_mono (hbody _ ((Fix.refl _ _).put (fun _ h => h rfl) _) (by simp) ⟨_, hr3, by rw [hrec]⟩) ?_
      have fin : ∀ (jump : Option Code) (W3 : World), Fix (fun b => X b ∨ Z b) (W2.putObj l (.loop { rec .ready none with state := .busy })) W3 →
          (Instr.endRound l jump).run P W3 = .ok (.bool jump.isNone) (W3.putObj l (.loop (rec (if jump.isNone then .ready else .done) jump))) ∧ W3.heap[l]? = some (.loop { rec .ready none with state := .busy }) := fun jump W3 hk3 => by
        have hl3 := hk3.blk hr3 (.inr hZl)
        have := run_endRound (P := P) jump hl3
        rw [hrec] at this ⊢
        exact ⟨this, by rw [hrec] at hl3; exact hl3⟩
      have toZ : ∀ W3 o, Fix (fun b => X b ∨ Z b) (W2.putObj l (.loop { rec .ready none with state := .busy })) W3 → Fix (fun b => Z b ∧ b ≠ l) w1 (W3.putObj l o) := fun W3 o h3 =>
        ((((hZf.trans (hf1.mono fun b _ h => .inl (.inr h.1))).put (fun _ h => h.2 rfl) _).trans (h3.mono fun b _ h => .inr h.1)).put (fun _ h => h.2 rfl) _)
      rintro e a3 W3 hp3
      have stop : ∀ c, Ix c (fun b => X b ∨ Z b) (pre ++ [x]) W3 ∧ Fix (fun b => X b ∨ Z b) (W2.putObj l (.loop { rec .ready none with state := .busy })) W3 →
          ∃ v w', (Instr.endRound l (some c)).run P W3 = .ok v w' ∧ ((Ending.returned v = .returned (.bool true) ∧ (I (fun b => X b ∨ Z b) (pre ++ [x]) w' ∧ (∀ b, X b → w1.heap.size ≤ b) ∧ Fix (fun b => Z b ∧ b ≠ l) w1 w' ∧ Fix K w1 w' ∧ w'.heap[l]? = some (.loop (rec .ready none))) ∧ Fix (fun b => X b ∨ K b) W1 w') ∨
            (Ending.returned v = .returned (.bool false) ∧ ∃ c, Ix c (fun b => X b ∨ Z b) (pre ++ [x]) w' ∧ (∀ b, X b → w1.heap.size ≤ b) ∧ Fix (fun b => Z b ∧ b ≠ l) w1 w' ∧ w'.heap[l]? = some (.loop (rec .done (some c))))) := by
        rintro c ⟨hix, hf3⟩
        obtain ⟨h1, h2⟩ := fin (some c) W3 hf3
        exact ⟨_, _, h1, .inr ⟨rfl, c, hIx _ _ _ _ _ hix ((Fix.refl _ _).put (fun _ h => h (.inr hZl)) _), hXw, toZ _ _ hf3, World.putObj_heap_same (blk_lt h2)⟩⟩
      cases e with
      | normal =>
        obtain ⟨hi3, hf3⟩ := hp3
        have hf3' : Fix (fun b => X b ∨ Z b) (W2.putObj l (.loop { rec .ready none with state := .busy })) W3 := hf3.mono fun b _ h => .inl h
        obtain ⟨h1, h2⟩ := fin none W3 hf3'
        have hK2 : ∀ o, Fix (fun b => X b ∨ K b) W1 (W3.putObj l o) := fun o =>
          (((hf1.mono fun b _ h => h.imp .inl id).put (fun _ h => h.elim (fun h => by have := hXw l h; omega) hKl) _).trans (hf3.mono fun b _ h => h.imp .inl id)).put (fun _ h => h.elim (fun h => by have := hXw l h; omega) hKl) _
        exact ⟨_, _, h1, .inl ⟨rfl, ⟨hI _ _ _ _ hi3 ((Fix.refl _ _).put (fun _ h => h (.inr hZl)) _), hXw, toZ _ _ hf3', hKf.trans ((hK2 _).mono fun b _ h => .inr h), World.putObj_heap_same (blk_lt h2)⟩, hK2 _⟩⟩
      | ret => exact stop .ret hp3
      | exit id => exact stop (.exit id) hp3
      | goto t => exact stop (.goto t) hp3
      | panic ch => exact hp3.elim
      | outgrown => exact hp3.elim
    | exit id => exact hp.elim
    | goto t => exact hp.elim
    | ret => exact hp.elim
    | panic ch => exact hp.elim
    | outgrown => exact hp.elim
  · exact ⟨hE _ _ _ _ h0 (fun b h => h.elim (fun h => h.elim) .inl), fun b h => h.elim, Fix.refl _ _, Fix.refl _ _, hl⟩
  · rintro e W' ⟨hv, ⟨hi, _, hZf, hKf, hr⟩ | ⟨pre, hp, c, hi, _, hZf, hr⟩⟩
    · exact ⟨hv, .inl ⟨hE _ _ _ _ hi (fun b h => .inl (.inr h)), hKf, hZf, hr⟩⟩
    · exact ⟨hv, .inr ⟨pre, c, hp, hS _ _ _ _ _ hi (fun b h => .inr h), hZf, hr⟩⟩
/-- How the value that is ranged over is called. -/
def CallsAs (P : Program) (v : Value) (gf : Nat) (mk : Value → Array Value) : Prop :=
  ∀ (a : Act) (g : Operand) (l : Nat) (W : World), a.eval g = v → ∃ d, (resolve a.eval (rangeCall g l) 0).run P W = .ok d W ∧ (invoke d.target d.args).run P W = .ok (.enter gf (mk (.func (.yield l) #[] #[]))) W
theorem callsAs_closure {P : Program} {gf : Nat} {lb : Array Value} (eg : ∀ args w, (callFunc gf args).run P w = .ok (.enter gf args) w) : CallsAs P (.func (.func gf) #[] lb) gf (fun y => #[y] ++ lb) := by
  intro a g l W hg
  refine ⟨{ target := .fn (.func gf) lb, args := #[.func (.yield l) #[] #[]] }, ?_, ?_⟩
  · simp only [resolve, hg]; simp [go_sem]
  · simp [invoke, go_sem, eg]
theorem callsAs_method {P : Program} {gf : Nat} {v : Value} (eg : ∀ args w, (callFunc gf args).run P w = .ok (.enter gf args) w) : CallsAs P (.func (.func gf) #[v] #[]) gf (fun y => #[v, y]) := by
  intro a g l W hg
  refine ⟨{ target := .fn (.func gf) #[], args := #[v, .func (.yield l) #[] #[]] }, ?_, ?_⟩
  · simp only [resolve, hg]; simp [go_sem]
  · simp [invoke, go_sem, eg]
/-- An outermost loop. -/
theorem wp_iter0 {α : Type} {P : Program} {g : Operand} {ps : Array Tmp} {assign body : Code} {Q : Exit → Act → World → Prop} {a : Act} {w : World}
    {encs : α → Array Value} {gf : Nat} {mk : Value → Array Value} {xs : List α} {K : Nat → Prop} {w0 : World} (hcall : CallsAs P (a.eval g) gf mk)
    (hit : Iter P gf mk encs xs K w0) (hw : Fix K w0 w) (hps : ∀ x, (encs x).size = ps.size) (hK : ∀ b, K b → b < w.heap.size)
    (I : (Nat → Prop) → List α → World → Prop) (Ix : Code → (Nat → Prop) → List α → World → Prop)
    (hI : ∀ X pre W W', I X pre W → Fix (fun b => ¬ X b) W W' → I X pre W')
    (hE : ∀ X X' pre W, I X pre W → (∀ b, X' b → X b ∨ W.heap.size ≤ b) → I X' pre W)
    (hIx : ∀ c X pre W W', Ix c X pre W → Fix (fun b => ¬ X b) W W' → Ix c X pre W')
    (hS : ∀ c X X' pre W, Ix c X' pre W → (∀ b, X b → X' b) → Ix c X pre W)
    (h0 : I (fun _ => False) [] w)
    (hround : ∀ l Y pre x W, Y l → (∀ b, Y b → w.heap.size ≤ b ∧ b < W.heap.size) → (∃ r, W.heap[l]? = some (.loop r) ∧ r.defers = w.heap.size) → I Y pre W → (pre ++ [x]) <+: xs → Fix K w W →
      assign.wpIn (FW (some l)) 0 P (Exit.then (fun a₁ W₁ => Fix (fun b => Y b ∨ K b) W W₁ ∧ ∀ W₂, Fix (fun b => b ≠ l) W₁ W₂ → W₁.heap.size = W₂.heap.size → (∃ r, W₂.heap[l]? = some (.loop r) ∧ r.defers = w.heap.size) → body.wpIn (FW (some l)) 0 P (rndPost K I Ix Y (pre ++ [x]) W₂) a₁ W₂) (fun _ _ _ => False))
        { tmps := (ps.zip (encs x)).foldl (fun t (p, v) => t.setIfInBounds p v) a.tmps, defers := [] } W)
    (hdone : ∀ W, I (fun _ => False) xs W → Fix K w W → W.heap[w.heap.size]? = some (.deferred (some [])) → Q .normal { a with defers := { target := .collected w.heap.size, args := #[] } :: a.defers } W)
    (hstop : ∀ c pre W, pre <+: xs → Ix c (fun _ => False) pre W → W.heap[w.heap.size]? = some (.deferred (some [])) → c.wp P Q { a with defers := { target := .collected w.heap.size, args := #[] } :: a.defers } W) :
    (Code.rangeFunc g ps assign body).wp P Q a w := by
  refine wpIn_wide (n := 0).1 (wpIn_rangeFunc fun fn _ => ?_)
  obtain ⟨rec, hrec⟩ : ∃ rec : LoopState → Option Code → Loop, rec = fun st pe => { state := st, pending := pe, fn, tmps := a.tmps, params := ps, assign, body, defers := w.heap.size } := ⟨_, rfl⟩
  obtain ⟨W1, hW1⟩ : ∃ W1, (w.alloc (.deferred (some []))).alloc (.loop (rec .ready none)) = W1 := ⟨_, rfl⟩
  have hL1 : W1.heap[w.heap.size + 1]? = some (.loop (rec .ready none)) := by rw [← hW1]; exact blk_at _ (by simp)
  have hD1 : W1.heap[w.heap.size]? = some (.deferred (some [])) := by rw [← hW1]; exact blk_alloc (blk_new _ _) _
  have hs1 : W1.heap.size = w.heap.size + 1 + 1 := by rw [← hW1]; simp
  have hwW : ∀ K', Fix K' w W1 := fun K' => by rw [← hW1]; exact ((Fix.refl K' w).alloc _).alloc _
  obtain ⟨d, hd1, hd2⟩ := hcall a g (w.heap.size + 1) W1 rfl
  refine ⟨w.heap.size + 1, [{ target := .collected w.heap.size, args := #[] }], W1, d, W1, gf, mk (.func (.yield (w.heap.size + 1)) #[] #[]), W1, ?_, hd1, fun _ _ => trivial, hd2, fun h => by simp [Fence.wide] at h, ?_⟩
  · rw [← hW1, hrec]; exact run_enterLoop_outer _ _ _ _ _
  · refine CallsIn.mono (callsW.2 (callsW.1 (iter_core (D := w.heap.size) (base := w.heap.size) hit (hw.trans (hwW K)) rec hrec hL1 (fun b => b = w.heap.size + 1 ∨ b = w.heap.size) (.inl rfl) ?_ hps hK I Ix hI hE hIx hS ?_ ?_))) ?_
    · intro b h
      rw [hs1]; rcases h with rfl | rfl <;> omega
    · exact hI _ _ _ _ (hE _ (fun b => b = w.heap.size + 1 ∨ b = w.heap.size) _ _ h0 (fun b h => .inr (by rcases h with rfl | rfl <;> omega))) (hwW _)
    · intro Y pre x W hYl hZY hY hr hi hp hf
      exact hround _ Y pre x W hYl hY hr hi hp ((hwW K).trans hf)
    · have hne : w.heap.size ≠ w.heap.size + 1 := by omega
      rintro e W2 ⟨⟨v, rfl⟩, ⟨hi, hKf, hZf, hr⟩ | ⟨pre, c, hp, hi, hZf, hr⟩⟩
      · refine ⟨none, _, by have := run_endLoop (P := P) hr (by rw [hrec]; simp); rw [hrec] at this; exact this, ?_⟩
        refine hdone _ ?_ ?_ ?_
        · exact hE _ _ _ _ (hI _ _ _ _ hi ((Fix.refl _ _).put (fun _ h => h (.inl rfl)) _)) (fun b h => h.elim)
        · exact ((hwW K).trans hKf).put (fun h => by omega) _
        · exact (World.putObj_heap_other hne).trans ((hZf.block _ (by rw [hs1]; omega) ⟨.inr rfl, hne⟩).trans hD1)
      · refine ⟨some c, _, by have := run_endLoop (P := P) hr (by rw [hrec]; simp); rw [hrec] at this; exact this, ?_⟩
        refine wpIn_wide.2 (hstop c pre _ hp ?_ ?_)
        · exact hS _ _ _ _ _ (hIx _ _ _ _ _ hi ((Fix.refl _ _).put (fun _ h => h (.inl rfl)) _)) (fun b h => h.elim)
        · exact (World.putObj_heap_other hne).trans ((hZf.block _ (by rw [hs1]; omega) ⟨.inr rfl, hne⟩).trans hD1)
/-- A loop in a round of loop l₀. -/
theorem wp_iterN {α : Type} {l₀ : Nat} {r₀ : Loop} {P : Program} {g : Operand} {ps : Array Tmp} {assign body : Code} {Q : Exit → Act → World → Prop} {a : Act} {w : World}
    {encs : α → Array Value} {gf : Nat} {mk : Value → Array Value} {xs : List α} {K : Nat → Prop} {w0 : World} (hcall : CallsAs P (a.eval g) gf mk)
    (hr₀ : w.heap[l₀]? = some (.loop r₀)) (hit : Iter P gf mk encs xs K w0) (hw : Fix K w0 w) (hps : ∀ x, (encs x).size = ps.size) (hK : ∀ b, K b → b < w.heap.size)
    (I : (Nat → Prop) → List α → World → Prop) (Ix : Code → (Nat → Prop) → List α → World → Prop)
    (hI : ∀ X pre W W', I X pre W → Fix (fun b => ¬ X b) W W' → I X pre W')
    (hE : ∀ X X' pre W, I X pre W → (∀ b, X' b → X b ∨ W.heap.size ≤ b) → I X' pre W)
    (hIx : ∀ c X pre W W', Ix c X pre W → Fix (fun b => ¬ X b) W W' → Ix c X pre W')
    (hS : ∀ c X X' pre W, Ix c X' pre W → (∀ b, X b → X' b) → Ix c X pre W)
    (h0 : I (fun _ => False) [] w)
    (hround : ∀ l Y pre x W, Y l → (∀ b, Y b → w.heap.size ≤ b ∧ b < W.heap.size) → (∃ r, W.heap[l]? = some (.loop r) ∧ r.defers = r₀.defers) → I Y pre W → (pre ++ [x]) <+: xs → Fix K w W →
      assign.wpIn (FW (some l)) 0 P (Exit.then (fun a₁ W₁ => Fix (fun b => Y b ∨ K b) W W₁ ∧ ∀ W₂, Fix (fun b => b ≠ l) W₁ W₂ → W₁.heap.size = W₂.heap.size → (∃ r, W₂.heap[l]? = some (.loop r) ∧ r.defers = r₀.defers) → body.wpIn (FW (some l)) 0 P (rndPost K I Ix Y (pre ++ [x]) W₂) a₁ W₂) (fun _ _ _ => False))
        { tmps := (ps.zip (encs x)).foldl (fun t (p, v) => t.setIfInBounds p v) a.tmps, defers := [] } W)
    (hdone : ∀ W, I (fun _ => False) xs W → Fix K w W → Q .normal a W)
    (hstop : ∀ c pre W, pre <+: xs → Ix c (fun _ => False) pre W → c.wpIn (FW (some l₀)) 0 P Q a W) :
    (Code.rangeFunc g ps assign body).wpIn (FW (some l₀)) 0 P Q a w := by
  refine wpIn_rangeFunc fun fn _ => ?_
  obtain ⟨rec, hrec⟩ : ∃ rec : LoopState → Option Code → Loop, rec = fun st pe => { state := st, pending := pe, fn, tmps := a.tmps, params := ps, assign, body, defers := r₀.defers } := ⟨_, rfl⟩
  obtain ⟨W1, hW1⟩ : ∃ W1, w.alloc (.loop (rec .ready none)) = W1 := ⟨_, rfl⟩
  have hL1 : W1.heap[w.heap.size]? = some (.loop (rec .ready none)) := by rw [← hW1]; exact blk_new _ _
  have hs1 : W1.heap.size = w.heap.size + 1 := by rw [← hW1]; simp
  have hwW : ∀ K', Fix K' w W1 := fun K' => by rw [← hW1]; exact (Fix.refl K' w).alloc _
  obtain ⟨d, hd1, hd2⟩ := hcall a g w.heap.size W1 rfl
  refine ⟨w.heap.size, [], W1, d, W1, gf, mk (.func (.yield w.heap.size) #[] #[]), W1, ?_, hd1, fun _ _ => trivial, hd2, fun h => by simp [Fence.wide] at h, ?_⟩
  · rw [← hW1, hrec]; exact run_enterLoop_inner hr₀ _ _ _ _ _
  · refine CallsIn.mono (callsW.2 (callsW.1 (iter_core (D := r₀.defers) (base := w.heap.size) hit (hw.trans (hwW K)) rec hrec hL1 (fun b => b = w.heap.size) rfl ?_ hps hK I Ix hI hE hIx hS ?_ ?_))) ?_
    · intro b h
      rw [hs1]; subst h; omega
    · exact hI _ _ _ _ (hE _ (fun b => b = w.heap.size) _ _ h0 (fun b h => .inr (by subst h; omega))) (hwW _)
    · intro Y pre x W hYl hZY hY hr hi hp hf
      exact hround _ Y pre x W hYl hY hr hi hp ((hwW K).trans hf)
    · rintro e W2 ⟨⟨v, rfl⟩, ⟨hi, hKf, hZf, hr⟩ | ⟨pre, c, hp, hi, hZf, hr⟩⟩
      · refine ⟨none, _, by have := run_endLoop (P := P) hr (by rw [hrec]; simp); rw [hrec] at this; exact this, ?_⟩
        refine hdone _ ?_ ?_
        · exact hE _ _ _ _ (hI _ _ _ _ hi ((Fix.refl _ _).put (fun _ h => h rfl) _)) (fun b h => h.elim)
        · exact ((hwW K).trans hKf).put (fun h => by omega) _
      · refine ⟨some c, _, by have := run_endLoop (P := P) hr (by rw [hrec]; simp); rw [hrec] at this; exact this, ?_⟩
        refine hstop c pre _ hp ?_
        · exact hS _ _ _ _ _ (hIx _ _ _ _ _ hi ((Fix.refl _ _).put (fun _ h => h rfl) _)) (fun b h => h.elim)
/-- An outermost loop whose state lies in blocks that were there before it. -/
theorem wp_iter0s {α : Type} {P : Program} {g : Operand} {ps : Array Tmp} {assign body : Code} {Q : Exit → Act → World → Prop} {a : Act} {w : World}
    {encs : α → Array Value} {gf : Nat} {mk : Value → Array Value} {xs : List α} {K : Nat → Prop} {w0 : World} (hcall : CallsAs P (a.eval g) gf mk)
    (hit : Iter P gf mk encs xs K w0) (hw : Fix K w0 w) (hps : ∀ x, (encs x).size = ps.size) (hK : ∀ b, K b → b < w.heap.size)
    (I : List α → World → Prop) (Ix : Code → List α → World → Prop)
    (hI : ∀ pre W W', I pre W → w.heap.size ≤ W.heap.size → Fix (fun b => b < w.heap.size) W W' → I pre W')
    (hIx : ∀ c pre W W', Ix c pre W → w.heap.size ≤ W.heap.size → Fix (fun b => b < w.heap.size) W W' → Ix c pre W')
    (h0 : I [] w)
    (hround : ∀ l pre x W, w.heap.size ≤ l → l < W.heap.size → w.heap.size ≤ W.heap.size → I pre W → (pre ++ [x]) <+: xs → Fix K w W →
      assign.wpIn (FW (some l)) 0 P (Exit.then (fun a₁ W₁ => Below W.heap.size W W₁ ∧ ∀ W₂, Fix (fun b => b ≠ l) W₁ W₂ → W₁.heap.size = W₂.heap.size → body.wpIn (FW (some l)) 0 P (fun
          | .normal, _, W' => I (pre ++ [x]) W' ∧ Fix (fun b => w.heap.size ≤ b ∨ K b) W₂ W'
          | .ret, _, W' => Ix .ret (pre ++ [x]) W' ∧ Fix (fun b => w.heap.size ≤ b) W₂ W'
          | .exit id, _, W' => Ix (.exit id) (pre ++ [x]) W' ∧ Fix (fun b => w.heap.size ≤ b) W₂ W'
          | .goto t, _, W' => Ix (.goto t) (pre ++ [x]) W' ∧ Fix (fun b => w.heap.size ≤ b) W₂ W'
          | _, _, _ => False) a₁ W₂) (fun _ _ _ => False))
        { tmps := (ps.zip (encs x)).foldl (fun t (p, v) => t.setIfInBounds p v) a.tmps, defers := [] } W)
    (hdone : ∀ W, I xs W → w.heap.size ≤ W.heap.size → W.heap[w.heap.size]? = some (.deferred (some [])) → Q .normal { a with defers := { target := .collected w.heap.size, args := #[] } :: a.defers } W)
    (hstop : ∀ c pre W, pre <+: xs → Ix c pre W → w.heap.size ≤ W.heap.size → W.heap[w.heap.size]? = some (.deferred (some [])) → c.wp P Q { a with defers := { target := .collected w.heap.size, args := #[] } :: a.defers } W) :
    (Code.rangeFunc g ps assign body).wp P Q a w := by
  have nb : ∀ {X : Nat → Prop}, (∀ b, X b → w.heap.size ≤ b) → ∀ b, b < w.heap.size → ¬ X b := fun h b hb hx => by have := h b hx; omega
  refine wp_iter0 hcall hit hw hps hK
    (fun X pre W => (∀ b, X b → w.heap.size ≤ b) ∧ w.heap.size ≤ W.heap.size ∧ I pre W)
    (fun c X pre W => (∀ b, X b → w.heap.size ≤ b) ∧ w.heap.size ≤ W.heap.size ∧ Ix c pre W) ?_ ?_ ?_ ?_ ⟨fun b h => h.elim, Nat.le_refl _, h0⟩ ?_ ?_ ?_
  · rintro X pre W W' ⟨h1, h2, h3⟩ hf
    exact ⟨h1, Nat.le_trans h2 hf.size, hI _ _ _ h3 h2 (hf.mono fun b _ hb => nb h1 b hb)⟩
  · rintro X X' pre W ⟨h1, h2, h3⟩ hx
    exact ⟨fun b hb => (hx b hb).elim (h1 b) (Nat.le_trans h2), h2, h3⟩
  · rintro c X pre W W' ⟨h1, h2, h3⟩ hf
    exact ⟨h1, Nat.le_trans h2 hf.size, hIx _ _ _ _ h3 h2 (hf.mono fun b _ hb => nb h1 b hb)⟩
  · rintro c X X' pre W ⟨h1, h2, h3⟩ hx
    exact ⟨fun b hb => h1 b (hx b hb), h2, h3⟩
  · rintro l Y pre x W hYl hY ⟨r, hr, _⟩ ⟨h1, h2, h3⟩ hp hf
    refine wpIn_mono (hround l pre x W (h1 l hYl) (blk_lt hr) h2 h3 hp hf) ?_
    rintro e a1 W1 hq
    cases e with
    | normal =>
      obtain ⟨hb, hq⟩ := hq
      refine ⟨Fix.of_below hb, fun W2 hf2 hsz hr2 => wpIn_mono (hq W2 hf2 hsz) ?_⟩
      have hs2 : w.heap.size ≤ W2.heap.size := by have := hb.size; omega
      rintro e a3 W3 hq3
      cases e with
      | normal => exact ⟨⟨h1, Nat.le_trans hs2 hq3.2.size, hq3.1⟩, hq3.2.mono fun b _ h => h.imp (h1 b) id⟩
      | ret => exact ⟨⟨h1, Nat.le_trans hs2 hq3.2.size, hq3.1⟩, hq3.2.mono fun b _ h => h1 b h⟩
      | exit id => exact ⟨⟨h1, Nat.le_trans hs2 hq3.2.size, hq3.1⟩, hq3.2.mono fun b _ h => h1 b h⟩
      | goto t => exact ⟨⟨h1, Nat.le_trans hs2 hq3.2.size, hq3.1⟩, hq3.2.mono fun b _ h => h1 b h⟩
      | panic ch => exact hq3.elim
      | outgrown => exact hq3.elim
    | exit id => exact hq.elim
    | goto t => exact hq.elim
    | ret => exact hq.elim
    | panic ch => exact hq.elim
    | outgrown => exact hq.elim
  · rintro W ⟨_, h2, h3⟩ hf hd
    exact hdone W h3 h2 hd
  · rintro c pre W hp ⟨_, h2, h3⟩ hd
    exact hstop c pre W hp h3 h2 hd
/-- The return of a function that holds an outermost loop: the block for deferred calls is shut. -/
theorem end_mark {P : Program} {fn : Func} {R : Ending → World → Prop} {a : Act} {W : World} {D : Nat} (v : Value) (hd : a.defers = [{ target := .collected D, args := #[] }]) (hK : W.heap[D]? = some (.deferred (some [])))
    (hres : ∀ V, Fix (fun b => b ≠ D) W V → (results fn a.tmps).run P V = .ok v V) (hR : ∀ V, Fix (fun b => b ≠ D) W V → R (.returned v) V) : bodyPostM (FW none) 0 P fn R .ret a W := by
  show LeavesInM (FW none) 0 P fn a.tmps R a.defers .returning W
  rw [hd]
  have hf : Fix (fun b => b ≠ D) W (W.putObj D (.deferred none)) := (Fix.refl _ _).put (fun _ h => h rfl) _
  exact ⟨by simp, .inl ⟨_, _, rfl, run_takeDeferred hK, v, hres _ hf, hR _ hf⟩⟩
end Go.Proofs.YtjekioabkmijbaaGreatDoor
