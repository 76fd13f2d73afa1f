/- The return of a function that holds an outermost loop which may be come to many times: each time lays a block for deferred calls. -/
import Derived.Test.YtjekioabkmijbaaGreatDoorZ04
set_option linter.unusedVariables false
set_option linter.unusedSimpArgs false
namespace Go.Proofs.YtjekioabkmijbaaGreatDoor
open Go.RowKit
/-- The marks of loops. -/
def marks (ds : List Nat) : List Deferred := ds.map fun d => { target := .collected d, args := #[] }
/-- Each mark's block is there, empty, at or beyond a block. -/
def Marks (base : Nat) (ds : List Nat) (W : World) : Prop := (∀ d ∈ ds, W.heap[d]? = some (.deferred (some [])) ∧ base ≤ d) ∧ ds.Nodup
theorem Marks.nil (base : Nat) (W : World) : Marks base [] W := ⟨fun d h => by simp at h, List.nodup_nil⟩
theorem Marks.fix {base : Nat} {ds : List Nat} {W W' : World} (h : Marks base ds W) {K : Nat → Prop} (hf : Fix K W W') (hK : ∀ d ∈ ds, K d) : Marks base ds W' :=
  ⟨fun d hd => ⟨hf.blk (h.1 d hd).1 (hK d hd), (h.1 d hd).2⟩, h.2⟩
theorem Marks.below {base : Nat} {ds : List Nat} {W W' : World} (h : Marks base ds W) (hb : Below W.heap.size W W') : Marks base ds W' := h.fix (K := fun _ => True) (Fix.of_below hb) (fun _ _ => trivial)
/-- A store into a block of cells. -/
theorem Marks.set {base : Nat} {ds : List Nat} {W : World} (h : Marks base ds W) {g : Nat} {cs : Array Value} {t : TypeId} {f : Nat × Nat} (hg : W.heap[g]? = some (.cells cs t f)) (i : Nat) (u : Value) : Marks base ds (W.setCell ⟨g, i, none⟩ u) :=
  ⟨fun d hd => ⟨blk_far (h.1 d hd).1 (fun e => by rw [show (⟨g, i, none⟩ : Addr).block = g from rfl] at e; subst e; rw [(h.1 _ hd).1] at hg; simp at hg) u, (h.1 d hd).2⟩, h.2⟩
theorem Marks.cons {base d : Nat} {ds : List Nat} {W : World} (h : Marks base ds W) (hd : W.heap[d]? = some (.deferred (some []))) (hb : base ≤ d) (hn : d ∉ ds) : Marks base (d :: ds) W :=
  ⟨fun e he => by
    rcases List.mem_cons.1 he with rfl | he
    · exact ⟨hd, hb⟩
    · exact h.1 e he, List.nodup_cons.2 ⟨hn, h.2⟩⟩
theorem leaves_marks {P : Program} {fn : Func} {tmps : Array Value} {R : Ending → World → Prop} {v : Value} : ∀ (ds : List Nat) (W : World), (∀ d ∈ ds, W.heap[d]? = some (.deferred (some []))) → ds.Nodup →
    (∀ V, Fix (fun b => b ∉ ds) W V → (results fn tmps).run P V = .ok v V) → (∀ V, Fix (fun b => b ∉ ds) W V → R (.returned v) V) → LeavesInM (FW none) 0 P fn tmps R (marks ds) .returning W
  | [], W, _, _, h1, h2 => ⟨v, h1 W (Fix.refl _ _), h2 W (Fix.refl _ _)⟩
  | d :: ds, W, hk, hn, h1, h2 => by
    obtain ⟨hn1, hn2⟩ := List.nodup_cons.1 hn
    have hf : Fix (fun b => b ≠ d) W (W.putObj d (.deferred none)) := (Fix.refl _ _).put (fun _ h => h rfl) _
    refine ⟨by simp, .inl ⟨_, _, rfl, run_takeDeferred (hk d (by simp)), ?_⟩⟩
    refine leaves_marks ds _ (fun e he => hf.blk (hk e (by simp [he])) (fun h => hn1 (h ▸ he))) hn2 (fun V hV => h1 V ?_) (fun V hV => h2 V ?_)
    all_goals exact (hf.mono fun b _ hb h => hb (by simp [h])).trans (hV.mono fun b _ hb h => hb (by simp [h]))
theorem end_marks {P : Program} {fn : Func} {R : Ending → World → Prop} {a : Act} {W : World} {base : Nat} (ds : List Nat) (v : Value) (hd : a.defers = marks ds) (hK : Marks base ds W)
    (hres : ∀ V, Fix (fun b => b ∉ ds) W V → (results fn a.tmps).run P V = .ok v V) (hR : ∀ V, Fix (fun b => b ∉ ds) W V → R (.returned v) V) : bodyPostM (FW none) 0 P fn R .ret a W := by
  show LeavesInM (FW none) 0 P fn a.tmps R a.defers .returning W
  rw [hd]
  exact leaves_marks ds W (fun d h => (hK.1 d h).1) hK.2 hres hR
/-! ### A loop whose rounds hold outermost loops over functions: the frame's marks grow -/
/-- The frame T with the slots of a list laid anew. -/
def setSlots (T : Array Value) (us : Nat → Value) : List Nat → Array Value
  | [] => T
  | i :: r => (setSlots T us r).setIfInBounds i (us i)
/-- What holds at a round's head. -/
def SlotsAt (T : Array Value) (idx : List Nat) (R : Nat → (Nat → Value) → List Nat → World → Prop) (n : Nat) (a : Act) (w : World) : Prop :=
  ∃ (us : Nat → Value) (ds : List Nat), a = { tmps := setSlots T us idx, defers := marks ds } ∧ R n us ds w
theorem slots_end {T T' : Array Value} {idx : List Nat} {R : Nat → (Nat → Value) → List Nat → World → Prop} {n : Nat} {ds : List Nat} {D : List Deferred} {w : World} (hd : D = marks ds) (h : setSlots T (fun i => T'.getD i undef) idx = T') (hR : R n (fun i => T'.getD i undef) ds w) : SlotsAt T idx R n { tmps := T', defers := D } w :=
  ⟨_, ds, by rw [h, hd], hR⟩
theorem wp_loop_slots {P : Program} {Q : Exit → Act → World → Prop} {T : Array Value} {D : List Deferred} {w : World} {c : Code} (idx : List Nat) (R : Nat → (Nat → Value) → List Nat → World → Prop) (n₀ : Nat) (h₀ : SlotsAt T idx R n₀ { tmps := T, defers := D } w)
    (round : ∀ n us ds w, R n us ds w → ∀ (J : Nat → Act → World → Prop) (K : Act → World → Prop), (∀ k a' w', SlotsAt T idx R k a' w' → J k a' w') → (∀ a' w', Handed J n a' w' → K a' w') → c.wp P (Exit.then K Q) { tmps := setSlots T us idx, defers := marks ds } w) : (Code.loop c).wp P Q { tmps := T, defers := D } w := by
  refine wp_loop_ghost_k (SlotsAt T idx R) n₀ h₀ ?_
  rintro n a w ⟨us, ds, rfl, hR⟩ J K hJ hK
  exact round n us ds w hR J K hJ hK
end Go.Proofs.YtjekioabkmijbaaGreatDoor
