/- The closed facts of a row, each by itself; those of the program alone. -/
import Derived.Test.YtjekioabkmijbaaGreatDoorRows
import Derived.JoinedOf
import Derived.KernelRfl
set_option linter.unusedVariables false
namespace Go.Proofs.YtjekioabkmijbaaGreatDoor
open Go
theorem joined_of {P : Program} {f : FuncId} {fn : Func} {s : ChangeSpec} {c : OpenClaim}
    (k0 : (c.wf (OpenSpec.ofChange s)) = true)
    (k1 : (laidOutB P) = true)
    (k2 : (mapsRowed P) = true)
    (k3 : (fn.params.all (P.readableRec ·)) = true)
    (k4 : (namedTie P c.named s.vars) = true)
    (k5 : ((c.stops == [])) = true)
    (k6 : ((P.stops == [])) = true)
    (k7 : ((c.knobs == [])) = true)
    (k8 : ((P.stopKnobs == [])) = true)
    (k9 : ((c.inPlace == P.inPlace f)) = true)
    (k10 : ((c.unfollowed == P.unfollowed f)) = true)
    (k11 : ((c.recurses == P.recurses f)) = true)
    (k12 : ((c.named == P.varsNamed f)) = true)
    (k13 : ((c.maps == (fn.params.toList ++ s.plain.varTypes P).any (P.mapsRec ·))) = true)
    (k14 : ((c.ifaces == (fn.params.toList ++ s.plain.varTypes P).any (P.ifacesRec ·))) = true)
    (k15 : ((c.mapsOut == P.mapsAmong fn.resultTypes.toList)) = true)
    (k16 : ((c.loops == (fn.params.toList ++ s.plain.varTypes P).any (P.loopsFrom ·))) = true)
    (k17 : ((c.wideKeys == (fn.params.toList ++ s.plain.varTypes P ++ fn.resultTypes.toList).any (P.wideKeysFrom ·))) = true)
    (k18 : (s.vars.all (P.varReadable ·)) = true)
    (k19 : (fn.resultTypes.all (fun t => P.readableRec t && decide (t < P.types.size))) = true)
    (k20 : ((c.ifacesOut == fn.resultTypes.toList.any (P.ifacesRec ·))) = true)
    (k21 : ((c.loopsOut == fn.resultTypes.toList.any (P.loopsFrom ·))) = true)
    (k22 : ((c.plainKeys == P.plainKeys)) = true)
    (k23 : (c.shortTexts.isNone) = true)
    (k24 : (P.stopsHeard) = true)
    (k25 : (P.mayEnter) = true)
    (k26 : ((c.lifted == P.liftsFinal)) = true)
    (k27 : ((P.make == some c.make)) = true)
    (k28 : ((c.kinds == (if c.domain.isEmpty then [] else fn.params.toList.map fun t => match P.underlying t with | some (.int k) => some k | _ => none))) = true)
    (k29 : ((c.pinned == c.pinnedBy)) = true)
    (k30 : ((c.veiled == (fn.params.toList ++ s.plain.varTypes P ++ fn.resultTypes.toList).any (P.veiledRec ·))) = true)
    (k31 : (c.veiledFits P fn.params.toList (fn.params.toList ++ s.plain.varTypes P ++ fn.resultTypes.toList)) = true)
    : joinedFacts P f fn s c = true := by
  unfold joinedFacts
  refine Bool.and_eq_true_iff.2 ⟨?_, k31⟩
  refine Bool.and_eq_true_iff.2 ⟨?_, k30⟩
  refine Bool.and_eq_true_iff.2 ⟨?_, k29⟩
  refine Bool.and_eq_true_iff.2 ⟨?_, k28⟩
  refine Bool.and_eq_true_iff.2 ⟨?_, k27⟩
  refine Bool.and_eq_true_iff.2 ⟨?_, k26⟩
  refine Bool.and_eq_true_iff.2 ⟨?_, k25⟩
  refine Bool.and_eq_true_iff.2 ⟨?_, k24⟩
  refine Bool.and_eq_true_iff.2 ⟨?_, k23⟩
  refine Bool.and_eq_true_iff.2 ⟨?_, k22⟩
  refine Bool.and_eq_true_iff.2 ⟨?_, k21⟩
  refine Bool.and_eq_true_iff.2 ⟨?_, k20⟩
  refine Bool.and_eq_true_iff.2 ⟨?_, k19⟩
  refine Bool.and_eq_true_iff.2 ⟨?_, k18⟩
  refine Bool.and_eq_true_iff.2 ⟨?_, k17⟩
  refine Bool.and_eq_true_iff.2 ⟨?_, k16⟩
  refine Bool.and_eq_true_iff.2 ⟨?_, k15⟩
  refine Bool.and_eq_true_iff.2 ⟨?_, k14⟩
  refine Bool.and_eq_true_iff.2 ⟨?_, k13⟩
  refine Bool.and_eq_true_iff.2 ⟨?_, k12⟩
  refine Bool.and_eq_true_iff.2 ⟨?_, k11⟩
  refine Bool.and_eq_true_iff.2 ⟨?_, k10⟩
  refine Bool.and_eq_true_iff.2 ⟨?_, k9⟩
  refine Bool.and_eq_true_iff.2 ⟨?_, k8⟩
  refine Bool.and_eq_true_iff.2 ⟨?_, k7⟩
  refine Bool.and_eq_true_iff.2 ⟨?_, k6⟩
  refine Bool.and_eq_true_iff.2 ⟨?_, k5⟩
  refine Bool.and_eq_true_iff.2 ⟨?_, k4⟩
  refine Bool.and_eq_true_iff.2 ⟨?_, k3⟩
  refine Bool.and_eq_true_iff.2 ⟨?_, k2⟩
  refine Bool.and_eq_true_iff.2 ⟨?_, k1⟩
  exact k0
theorem pf1 : (fun P : Program => (laidOutB P : Bool)) Tryz.pinned.checked.prog = true := by kernel_rfl
theorem pf2 : (fun P : Program => (mapsRowed P : Bool)) Tryz.pinned.checked.prog = true := by kernel_rfl
theorem pf6 : (fun P : Program => ((P.stops == []) : Bool)) Tryz.pinned.checked.prog = true := by kernel_rfl
theorem pf8 : (fun P : Program => ((P.stopKnobs == []) : Bool)) Tryz.pinned.checked.prog = true := by kernel_rfl
theorem pf24 : (fun P : Program => (P.stopsHeard : Bool)) Tryz.pinned.checked.prog = true := by kernel_rfl
theorem pf25 : (fun P : Program => (P.mayEnter : Bool)) Tryz.pinned.checked.prog = true := by kernel_rfl
end Go.Proofs.YtjekioabkmijbaaGreatDoor
/- The closed facts of the row of DriftKnown. -/
set_option linter.unusedVariables false
namespace Go.Proofs.YtjekioabkmijbaaGreatDoor
open Go
theorem driftKnown_k0 : (fun (P : Program) (f : FuncId) (fn : Func) (s : ChangeSpec) (c : OpenClaim) => (c.wf (OpenSpec.ofChange s) : Bool)) Tryz.pinned.checked.prog 5 Tryz.f5 Rows.driftKnownSpec Rows.driftKnownRow = true := by kernel_rfl
theorem driftKnown_k3 : (fun (P : Program) (f : FuncId) (fn : Func) (s : ChangeSpec) (c : OpenClaim) => (fn.params.all (P.readableRec ·) : Bool)) Tryz.pinned.checked.prog 5 Tryz.f5 Rows.driftKnownSpec Rows.driftKnownRow = true := by kernel_rfl
theorem driftKnown_k4 : (fun (P : Program) (f : FuncId) (fn : Func) (s : ChangeSpec) (c : OpenClaim) => (namedTie P c.named s.vars : Bool)) Tryz.pinned.checked.prog 5 Tryz.f5 Rows.driftKnownSpec Rows.driftKnownRow = true := by kernel_rfl
theorem driftKnown_k5 : (fun (P : Program) (f : FuncId) (fn : Func) (s : ChangeSpec) (c : OpenClaim) => ((c.stops == []) : Bool)) Tryz.pinned.checked.prog 5 Tryz.f5 Rows.driftKnownSpec Rows.driftKnownRow = true := by kernel_rfl
theorem driftKnown_k7 : (fun (P : Program) (f : FuncId) (fn : Func) (s : ChangeSpec) (c : OpenClaim) => ((c.knobs == []) : Bool)) Tryz.pinned.checked.prog 5 Tryz.f5 Rows.driftKnownSpec Rows.driftKnownRow = true := by kernel_rfl
theorem driftKnown_k9 : (fun (P : Program) (f : FuncId) (fn : Func) (s : ChangeSpec) (c : OpenClaim) => ((c.inPlace == P.inPlace f) : Bool)) Tryz.pinned.checked.prog 5 Tryz.f5 Rows.driftKnownSpec Rows.driftKnownRow = true := by kernel_rfl
theorem driftKnown_k10 : (fun (P : Program) (f : FuncId) (fn : Func) (s : ChangeSpec) (c : OpenClaim) => ((c.unfollowed == P.unfollowed f) : Bool)) Tryz.pinned.checked.prog 5 Tryz.f5 Rows.driftKnownSpec Rows.driftKnownRow = true := by kernel_rfl
theorem driftKnown_k11 : (fun (P : Program) (f : FuncId) (fn : Func) (s : ChangeSpec) (c : OpenClaim) => ((c.recurses == P.recurses f) : Bool)) Tryz.pinned.checked.prog 5 Tryz.f5 Rows.driftKnownSpec Rows.driftKnownRow = true := by kernel_rfl
theorem driftKnown_k12 : (fun (P : Program) (f : FuncId) (fn : Func) (s : ChangeSpec) (c : OpenClaim) => ((c.named == P.varsNamed f) : Bool)) Tryz.pinned.checked.prog 5 Tryz.f5 Rows.driftKnownSpec Rows.driftKnownRow = true := by kernel_rfl
theorem driftKnown_k13 : (fun (P : Program) (f : FuncId) (fn : Func) (s : ChangeSpec) (c : OpenClaim) => ((c.maps == (fn.params.toList ++ s.plain.varTypes P).any (P.mapsRec ·)) : Bool)) Tryz.pinned.checked.prog 5 Tryz.f5 Rows.driftKnownSpec Rows.driftKnownRow = true := by kernel_rfl
theorem driftKnown_k14 : (fun (P : Program) (f : FuncId) (fn : Func) (s : ChangeSpec) (c : OpenClaim) => ((c.ifaces == (fn.params.toList ++ s.plain.varTypes P).any (P.ifacesRec ·)) : Bool)) Tryz.pinned.checked.prog 5 Tryz.f5 Rows.driftKnownSpec Rows.driftKnownRow = true := by kernel_rfl
theorem driftKnown_k15 : (fun (P : Program) (f : FuncId) (fn : Func) (s : ChangeSpec) (c : OpenClaim) => ((c.mapsOut == P.mapsAmong fn.resultTypes.toList) : Bool)) Tryz.pinned.checked.prog 5 Tryz.f5 Rows.driftKnownSpec Rows.driftKnownRow = true := by kernel_rfl
theorem driftKnown_k16 : (fun (P : Program) (f : FuncId) (fn : Func) (s : ChangeSpec) (c : OpenClaim) => ((c.loops == (fn.params.toList ++ s.plain.varTypes P).any (P.loopsFrom ·)) : Bool)) Tryz.pinned.checked.prog 5 Tryz.f5 Rows.driftKnownSpec Rows.driftKnownRow = true := by kernel_rfl
theorem driftKnown_k17 : (fun (P : Program) (f : FuncId) (fn : Func) (s : ChangeSpec) (c : OpenClaim) => ((c.wideKeys == (fn.params.toList ++ s.plain.varTypes P ++ fn.resultTypes.toList).any (P.wideKeysFrom ·)) : Bool)) Tryz.pinned.checked.prog 5 Tryz.f5 Rows.driftKnownSpec Rows.driftKnownRow = true := by kernel_rfl
theorem driftKnown_k18 : (fun (P : Program) (f : FuncId) (fn : Func) (s : ChangeSpec) (c : OpenClaim) => (s.vars.all (P.varReadable ·) : Bool)) Tryz.pinned.checked.prog 5 Tryz.f5 Rows.driftKnownSpec Rows.driftKnownRow = true := by kernel_rfl
theorem driftKnown_k19 : (fun (P : Program) (f : FuncId) (fn : Func) (s : ChangeSpec) (c : OpenClaim) => (fn.resultTypes.all (fun t => P.readableRec t && decide (t < P.types.size)) : Bool)) Tryz.pinned.checked.prog 5 Tryz.f5 Rows.driftKnownSpec Rows.driftKnownRow = true := by kernel_rfl
theorem driftKnown_k20 : (fun (P : Program) (f : FuncId) (fn : Func) (s : ChangeSpec) (c : OpenClaim) => ((c.ifacesOut == fn.resultTypes.toList.any (P.ifacesRec ·)) : Bool)) Tryz.pinned.checked.prog 5 Tryz.f5 Rows.driftKnownSpec Rows.driftKnownRow = true := by kernel_rfl
theorem driftKnown_k21 : (fun (P : Program) (f : FuncId) (fn : Func) (s : ChangeSpec) (c : OpenClaim) => ((c.loopsOut == fn.resultTypes.toList.any (P.loopsFrom ·)) : Bool)) Tryz.pinned.checked.prog 5 Tryz.f5 Rows.driftKnownSpec Rows.driftKnownRow = true := by kernel_rfl
theorem driftKnown_k22 : (fun (P : Program) (f : FuncId) (fn : Func) (s : ChangeSpec) (c : OpenClaim) => ((c.plainKeys == P.plainKeys) : Bool)) Tryz.pinned.checked.prog 5 Tryz.f5 Rows.driftKnownSpec Rows.driftKnownRow = true := by kernel_rfl
theorem driftKnown_k23 : (fun (P : Program) (f : FuncId) (fn : Func) (s : ChangeSpec) (c : OpenClaim) => (c.shortTexts.isNone : Bool)) Tryz.pinned.checked.prog 5 Tryz.f5 Rows.driftKnownSpec Rows.driftKnownRow = true := by kernel_rfl
theorem driftKnown_k26 : (fun (P : Program) (f : FuncId) (fn : Func) (s : ChangeSpec) (c : OpenClaim) => ((c.lifted == P.liftsFinal) : Bool)) Tryz.pinned.checked.prog 5 Tryz.f5 Rows.driftKnownSpec Rows.driftKnownRow = true := by kernel_rfl
theorem driftKnown_k27 : (fun (P : Program) (f : FuncId) (fn : Func) (s : ChangeSpec) (c : OpenClaim) => ((P.make == some c.make) : Bool)) Tryz.pinned.checked.prog 5 Tryz.f5 Rows.driftKnownSpec Rows.driftKnownRow = true := by kernel_rfl
theorem driftKnown_k28 : (fun (P : Program) (f : FuncId) (fn : Func) (s : ChangeSpec) (c : OpenClaim) => ((c.kinds == (if c.domain.isEmpty then [] else fn.params.toList.map fun t => match P.underlying t with | some (.int k) => some k | _ => none)) : Bool)) Tryz.pinned.checked.prog 5 Tryz.f5 Rows.driftKnownSpec Rows.driftKnownRow = true := by kernel_rfl
theorem driftKnown_k29 : (fun (P : Program) (f : FuncId) (fn : Func) (s : ChangeSpec) (c : OpenClaim) => ((c.pinned == c.pinnedBy) : Bool)) Tryz.pinned.checked.prog 5 Tryz.f5 Rows.driftKnownSpec Rows.driftKnownRow = true := by kernel_rfl
theorem driftKnown_k30 : (fun (P : Program) (f : FuncId) (fn : Func) (s : ChangeSpec) (c : OpenClaim) => ((c.veiled == (fn.params.toList ++ s.plain.varTypes P ++ fn.resultTypes.toList).any (P.veiledRec ·)) : Bool)) Tryz.pinned.checked.prog 5 Tryz.f5 Rows.driftKnownSpec Rows.driftKnownRow = true := by kernel_rfl
theorem driftKnown_k31 : (fun (P : Program) (f : FuncId) (fn : Func) (s : ChangeSpec) (c : OpenClaim) => (c.veiledFits P fn.params.toList (fn.params.toList ++ s.plain.varTypes P ++ fn.resultTypes.toList) : Bool)) Tryz.pinned.checked.prog 5 Tryz.f5 Rows.driftKnownSpec Rows.driftKnownRow = true := by kernel_rfl
set_option maxRecDepth 100000 in
theorem driftKnown_facts : joinedFacts Tryz.pinned.checked.prog 5 Tryz.f5 Rows.driftKnownSpec Rows.driftKnownRow = true :=
  joined_of driftKnown_k0 pf1 pf2 driftKnown_k3 driftKnown_k4 driftKnown_k5 pf6 driftKnown_k7 pf8 driftKnown_k9 driftKnown_k10 driftKnown_k11 driftKnown_k12 driftKnown_k13 driftKnown_k14 driftKnown_k15 driftKnown_k16 driftKnown_k17 driftKnown_k18 driftKnown_k19 driftKnown_k20 driftKnown_k21 driftKnown_k22 driftKnown_k23 pf24 pf25 driftKnown_k26 driftKnown_k27 driftKnown_k28 driftKnown_k29 driftKnown_k30 driftKnown_k31
theorem driftKnown_fn : Tryz.pinned.checked.prog.funcNamed Rows.driftKnownRow.func = some 5 := by kernel_rfl
end Go.Proofs.YtjekioabkmijbaaGreatDoor
