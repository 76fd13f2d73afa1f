/- slices.IndexFunc and ContainsFunc. -/
import Derived.Test.YtjekioabkmijbaaGreatDoorZ06
set_option linter.unusedVariables false
set_option linter.unusedSimpArgs false
namespace Go.Proofs.YtjekioabkmijbaaGreatDoor
open Go.RowKit
/-- The place of the first one that p lets in; -1 without one. -/
def idxOf {α : Type} (p : α → Bool) (l : List α) : Int := match l.findIdx? p with
  | some i => (i : Int)
  | none => -1
theorem idxOf_some {α : Type} {p : α → Bool} {l : List α} {k : Nat} {x : α} (hx : l[k]? = some x) (h0 : ∀ j y, j < k → l[j]? = some y → p y = false) (h : p x = true) : idxOf p l = (k : Int) := by
  have : l.findIdx? p = some k := by
    obtain ⟨hk, e⟩ := List.getElem?_eq_some_iff.1 hx
    rw [List.findIdx?_eq_some_iff_getElem]
    refine ⟨hk, by rw [e]; exact h, fun j hj => ?_⟩
    have := h0 j _ hj (List.getElem?_eq_getElem (by omega))
    simp [this]
  unfold idxOf; rw [this]
theorem idxOf_none {α : Type} {p : α → Bool} {l : List α} (h0 : ∀ j y, j < l.length → l[j]? = some y → p y = false) : idxOf p l = -1 := by
  have : l.findIdx? p = none := by
    rw [List.findIdx?_eq_none_iff]
    intro x hx
    obtain ⟨j, hj, e⟩ := List.getElem_of_mem hx
    exact h0 j x hj (by rw [List.getElem?_eq_getElem hj, e])
  unfold idxOf; rw [this]
theorem idxOf_any {α : Type} (p : α → Bool) (l : List α) : decide (0 ≤ idxOf p l) = l.any p := by
  unfold idxOf
  cases h : l.findIdx? p with
  | none =>
    rw [List.findIdx?_eq_none_iff] at h
    symm
    simpa using h
  | some i =>
    rw [List.findIdx?_eq_some_iff_getElem] at h
    obtain ⟨hi, hp, _⟩ := h
    have : l.any p = true := List.any_eq_true.2 ⟨_, List.getElem_mem hi, hp⟩
    rw [this]; simp
theorem idxOf_bounds {α : Type} (p : α → Bool) (l : List α) : -1 ≤ idxOf p l ∧ idxOf p l < l.length := by
  unfold idxOf
  cases h : l.findIdx? p with
  | none => simp; omega
  | some i =>
    rw [List.findIdx?_eq_some_iff_getElem] at h
    obtain ⟨hi, _⟩ := h
    simp; omega
/-- A function value that tells of each element whether it is meant, and leaves the memory as it was. -/
def Tells {α : Type} (P : Program) (gf : Nat) (lb : Array Value) (enc : α → Value) (p : α → Bool) (l : List α) (w : World) : Prop :=
  (∀ args w, (callFunc gf args).run P w = .ok (.enter gf args) w) ∧ ∀ x ∈ l, ∀ w1, Below w.heap.size w w1 → Calls P gf (#[enc x] ++ lb) w1 fun e w2 => e = .returned (.bool (p x)) ∧ Below w1.heap.size w1 w2
set_option maxHeartbeats 1000000 in
theorem index163_calls {gf : Nat} {lb : Array Value} (p : Int → Bool) (l : List Int) (v : Value) (w : World) (hs : Sl intCs 1 w v l) (ht : Tells Tryz.prog gf lb (fun x => iv x) p l w) :
    Calls Tryz.prog 163 #[v, .func (.func gf) #[] lb] w fun e w' => e = .returned (iv (idxOf p l)) ∧ Below w.heap.size w w' := by
  obtain ⟨A, c, rfl, hc, hl⟩ := hs.open_
  obtain ⟨eg, hT⟩ := ht
  have HT := Lib.hid hT
  have HS := Lib.hid hs
  clear hT hs
  go_enter Tryz.func163, Tryz.ntmps163
  go_wp2
  go_loopg [8] l.length (fun n i wr => ∃ k : Nat, k ≤ l.length ∧ n = l.length - k ∧ i = .int .i64 k ∧ Hid (Below w.heap.size w wr) ∧ Hid (∀ j y, j < k → l[j]? = some y → p y = false))
  case atStart => exact ⟨0, by omega, by omega, rfl, Below.refl _ _, fun j y hj => by omega⟩
  case round =>
    obtain ⟨k, hk, hn, rfl, HB, H0⟩ := hrel
    by_cases hlt : k < l.length
    · have hx : l[k]? = some l[k] := List.getElem?_eq_getElem hlt
      obtain ⟨x, hxe⟩ : ∃ x, x = l[k] := ⟨_, rfl⟩
      rw [← hxe] at hx
      have hm : x ∈ l := by rw [hxe]; exact List.getElem_mem hlt
      clear hxe
      obtain ⟨b, o, rfl, c0⟩ := (HS.out.below HB.out).int k _ hx
      have HX := Lib.hid hx
      have HM := Lib.hid hm
      clear hx hm
      have HC := Lib.hid (HT.out x HM.out wr HB.out)
      by_cases hp : p x = true
      · have HP := Lib.hid hp
        clear hp
        go_wp2_with fail
        refine HC.out.mono ?_
        rintro e w1 ⟨rfl, hb1⟩
        rw [HP.out]
        have HB1 := Lib.hid hb1
        clear hb1
        go_wp2
        refine bodyPost_ret (v := iv (idxOf p l)) (by rw [idxOf_some HX.out H0.out HP.out]; simp [results, Tryz.results163, go_sem]) rfl ⟨rfl, bl_step HB.out HB1.out⟩
      · have HP := Lib.hid (show p x = false by simpa using hp)
        clear hp
        go_wp2_with fail
        refine HC.out.mono ?_
        rintro e w1 ⟨rfl, hb1⟩
        rw [HP.out]
        have HB1 := Lib.hid hb1
        clear hb1
        go_wp2
        go_roundg (l.length - (k + 1))
        case measure => omega
        case rel => exact ⟨k + 1, by omega, rfl, by go_num, bl_step HB.out HB1.out, fun j y hj hy => by
          rcases Nat.lt_or_ge j k with h | h
          · exact H0.out j y h hy
          · obtain rfl : j = k := by omega
            have hx := HX.out
            rw [hy] at hx
            cases hx
            exact HP.out⟩
    · obtain rfl : k = l.length := by omega
      go_wp2
      refine bodyPost_ret (v := iv (idxOf p l)) (by rw [idxOf_none H0.out]; simp [results, Tryz.results163, go_sem]) rfl ⟨rfl, HB.out⟩
theorem contains102_calls {gf : Nat} {lb : Array Value} (p : Int → Bool) (l : List Int) (v : Value) (w : World) (hs : Sl intCs 1 w v l) (ht : Tells Tryz.prog gf lb (fun x => iv x) p l w) :
    Calls Tryz.prog 102 #[v, .func (.func gf) #[] lb] w fun e w' => e = .returned (.bool (l.any p)) ∧ Below w.heap.size w w' := by
  have HC := Lib.hid (index163_calls p l v w hs ht)
  have hb := (idxOf_bounds p l).1
  have ha := idxOf_any p l
  generalize idxOf p l = i at HC hb ha
  have HA := Lib.hid ha
  clear hs ht ha
  go_enter Tryz.func102, Tryz.ntmps102
  go_wp2_with (go_at_call 163; refine HC.out.mono ?_; rintro e w' ⟨rfl, hb1⟩; have HB := Lib.hid hb1; clear hb1)
  refine bodyPost_ret (v := .bool (l.any p)) (by rw [← HA.out]; simp [results, Tryz.results102, go_sem]) rfl ⟨rfl, HB.out⟩
set_option maxHeartbeats 1000000 in
theorem index164_calls {gf : Nat} {lb : Array Value} (p : DTide → Bool) (l : List DTide) (v : Value) (w : World) (hs : Sl DTide.cs 2 w v l) (ht : Tells Tryz.prog gf lb (fun x => tideV x) p l w) :
    Calls Tryz.prog 164 #[v, .func (.func gf) #[] lb] w fun e w' => e = .returned (iv (idxOf p l)) ∧ Below w.heap.size w w' := by
  obtain ⟨A, c, rfl, hc, hl⟩ := hs.open_
  obtain ⟨eg, hT⟩ := ht
  have HT := Lib.hid hT
  have HS := Lib.hid hs
  clear hT hs
  go_enter Tryz.func164, Tryz.ntmps164
  go_wp2
  go_loopg [8] l.length (fun n i wr => ∃ k : Nat, k ≤ l.length ∧ n = l.length - k ∧ i = .int .i64 k ∧ Hid (Below w.heap.size w wr) ∧ Hid (∀ j y, j < k → l[j]? = some y → p y = false))
  case atStart => exact ⟨0, by omega, by omega, rfl, Below.refl _ _, fun j y hj => by omega⟩
  case round =>
    obtain ⟨k, hk, hn, rfl, HB, H0⟩ := hrel
    by_cases hlt : k < l.length
    · have hx : l[k]? = some l[k] := List.getElem?_eq_getElem hlt
      obtain ⟨x, hxe⟩ : ∃ x, x = l[k] := ⟨_, rfl⟩
      rw [← hxe] at hx
      have hm : x ∈ l := by rw [hxe]; exact List.getElem_mem hlt
      clear hxe
      obtain ⟨b, o, rfl, c0, c1⟩ := (HS.out.below HB.out).tide k _ hx
      have HX := Lib.hid hx
      have HM := Lib.hid hm
      clear hx hm
      have HC := Lib.hid (HT.out x HM.out wr HB.out)
      by_cases hp : p x = true
      · have HP := Lib.hid hp
        clear hp
        go_wp2_with fail
        refine HC.out.mono ?_
        rintro e w1 ⟨rfl, hb1⟩
        rw [HP.out]
        have HB1 := Lib.hid hb1
        clear hb1
        go_wp2
        refine bodyPost_ret (v := iv (idxOf p l)) (by rw [idxOf_some HX.out H0.out HP.out]; simp [results, Tryz.results164, go_sem]) rfl ⟨rfl, bl_step HB.out HB1.out⟩
      · have HP := Lib.hid (show p x = false by simpa using hp)
        clear hp
        go_wp2_with fail
        refine HC.out.mono ?_
        rintro e w1 ⟨rfl, hb1⟩
        rw [HP.out]
        have HB1 := Lib.hid hb1
        clear hb1
        go_wp2
        go_roundg (l.length - (k + 1))
        case measure => omega
        case rel => exact ⟨k + 1, by omega, rfl, by go_num, bl_step HB.out HB1.out, fun j y hj hy => by
          rcases Nat.lt_or_ge j k with h | h
          · exact H0.out j y h hy
          · obtain rfl : j = k := by omega
            have hx := HX.out
            rw [hy] at hx
            cases hx
            exact HP.out⟩
    · obtain rfl : k = l.length := by omega
      go_wp2
      refine bodyPost_ret (v := iv (idxOf p l)) (by rw [idxOf_none H0.out]; simp [results, Tryz.results164, go_sem]) rfl ⟨rfl, HB.out⟩
theorem contains104_calls {gf : Nat} {lb : Array Value} (p : DTide → Bool) (l : List DTide) (v : Value) (w : World) (hs : Sl DTide.cs 2 w v l) (ht : Tells Tryz.prog gf lb (fun x => tideV x) p l w) :
    Calls Tryz.prog 104 #[v, .func (.func gf) #[] lb] w fun e w' => e = .returned (.bool (l.any p)) ∧ Below w.heap.size w w' := by
  have HC := Lib.hid (index164_calls p l v w hs ht)
  have hb := (idxOf_bounds p l).1
  have ha := idxOf_any p l
  generalize idxOf p l = i at HC hb ha
  have HA := Lib.hid ha
  clear hs ht ha
  go_enter Tryz.func104, Tryz.ntmps104
  go_wp2_with (go_at_call 164; refine HC.out.mono ?_; rintro e w' ⟨rfl, hb1⟩; have HB := Lib.hid hb1; clear hb1)
  refine bodyPost_ret (v := .bool (l.any p)) (by rw [← HA.out]; simp [results, Tryz.results104, go_sem]) rfl ⟨rfl, HB.out⟩
set_option maxHeartbeats 1000000 in
theorem index182_calls {gf : Nat} {lb : Array Value} (p : DWind → Bool) (l : List DWind) (v : Value) (w : World) (hs : Sl DWind.cs 9 w v l) (ht : Tells Tryz.prog gf lb (fun x => windV x) p l w) :
    Calls Tryz.prog 182 #[v, .func (.func gf) #[] lb] w fun e w' => e = .returned (iv (idxOf p l)) ∧ Below w.heap.size w w' := by
  obtain ⟨A, c, rfl, hc, hl⟩ := hs.open_
  obtain ⟨eg, hT⟩ := ht
  have HT := Lib.hid hT
  have HS := Lib.hid hs
  clear hT hs
  go_enter Tryz.func182, Tryz.ntmps182
  go_wp2
  go_loopg [8] l.length (fun n i wr => ∃ k : Nat, k ≤ l.length ∧ n = l.length - k ∧ i = .int .i64 k ∧ Hid (Below w.heap.size w wr) ∧ Hid (∀ j y, j < k → l[j]? = some y → p y = false))
  case atStart => exact ⟨0, by omega, by omega, rfl, Below.refl _ _, fun j y hj => by omega⟩
  case round =>
    obtain ⟨k, hk, hn, rfl, HB, H0⟩ := hrel
    by_cases hlt : k < l.length
    · have hx : l[k]? = some l[k] := List.getElem?_eq_getElem hlt
      obtain ⟨x, hxe⟩ : ∃ x, x = l[k] := ⟨_, rfl⟩
      rw [← hxe] at hx
      have hm : x ∈ l := by rw [hxe]; exact List.getElem_mem hlt
      clear hxe
      obtain ⟨b, o, rfl, c0, c1, c2, c3, c4, c5, c6, c7, c8⟩ := (HS.out.below HB.out).wind k _ hx
      have HX := Lib.hid hx
      have HM := Lib.hid hm
      clear hx hm
      have HC := Lib.hid (HT.out x HM.out wr HB.out)
      by_cases hp : p x = true
      · have HP := Lib.hid hp
        clear hp
        go_wp2_with fail
        refine HC.out.mono ?_
        rintro e w1 ⟨rfl, hb1⟩
        rw [HP.out]
        have HB1 := Lib.hid hb1
        clear hb1
        go_wp2
        refine bodyPost_ret (v := iv (idxOf p l)) (by rw [idxOf_some HX.out H0.out HP.out]; simp [results, Tryz.results182, go_sem]) rfl ⟨rfl, bl_step HB.out HB1.out⟩
      · have HP := Lib.hid (show p x = false by simpa using hp)
        clear hp
        go_wp2_with fail
        refine HC.out.mono ?_
        rintro e w1 ⟨rfl, hb1⟩
        rw [HP.out]
        have HB1 := Lib.hid hb1
        clear hb1
        go_wp2
        go_roundg (l.length - (k + 1))
        case measure => omega
        case rel => exact ⟨k + 1, by omega, rfl, by go_num, bl_step HB.out HB1.out, fun j y hj hy => by
          rcases Nat.lt_or_ge j k with h | h
          · exact H0.out j y h hy
          · obtain rfl : j = k := by omega
            have hx := HX.out
            rw [hy] at hx
            cases hx
            exact HP.out⟩
    · obtain rfl : k = l.length := by omega
      go_wp2
      refine bodyPost_ret (v := iv (idxOf p l)) (by rw [idxOf_none H0.out]; simp [results, Tryz.results182, go_sem]) rfl ⟨rfl, HB.out⟩
theorem contains151_calls {gf : Nat} {lb : Array Value} (p : DWind → Bool) (l : List DWind) (v : Value) (w : World) (hs : Sl DWind.cs 9 w v l) (ht : Tells Tryz.prog gf lb (fun x => windV x) p l w) :
    Calls Tryz.prog 151 #[v, .func (.func gf) #[] lb] w fun e w' => e = .returned (.bool (l.any p)) ∧ Below w.heap.size w w' := by
  have HC := Lib.hid (index182_calls p l v w hs ht)
  have hb := (idxOf_bounds p l).1
  have ha := idxOf_any p l
  generalize idxOf p l = i at HC hb ha
  have HA := Lib.hid ha
  clear hs ht ha
  go_enter Tryz.func151, Tryz.ntmps151
  go_wp2_with (go_at_call 182; refine HC.out.mono ?_; rintro e w' ⟨rfl, hb1⟩; have HB := Lib.hid hb1; clear hb1)
  refine bodyPost_ret (v := .bool (l.any p)) (by rw [← HA.out]; simp [results, Tryz.results151, go_sem]) rfl ⟨rfl, HB.out⟩
set_option maxHeartbeats 1000000 in
theorem index169_calls {gf : Nat} {lb : Array Value} (p : DPlace → Bool) (l : List DPlace) (v : Value) (w : World) (hs : Sl DPlace.cs 2 w v l) (ht : Tells Tryz.prog gf lb (fun x => placeV x) p l w) :
    Calls Tryz.prog 169 #[v, .func (.func gf) #[] lb] w fun e w' => e = .returned (iv (idxOf p l)) ∧ Below w.heap.size w w' := by
  obtain ⟨A, c, rfl, hc, hl⟩ := hs.open_
  obtain ⟨eg, hT⟩ := ht
  have HT := Lib.hid hT
  have HS := Lib.hid hs
  clear hT hs
  go_enter Tryz.func169, Tryz.ntmps169
  go_wp2
  go_loopg [8] l.length (fun n i wr => ∃ k : Nat, k ≤ l.length ∧ n = l.length - k ∧ i = .int .i64 k ∧ Hid (Below w.heap.size w wr) ∧ Hid (∀ j y, j < k → l[j]? = some y → p y = false))
  case atStart => exact ⟨0, by omega, by omega, rfl, Below.refl _ _, fun j y hj => by omega⟩
  case round =>
    obtain ⟨k, hk, hn, rfl, HB, H0⟩ := hrel
    by_cases hlt : k < l.length
    · have hx : l[k]? = some l[k] := List.getElem?_eq_getElem hlt
      obtain ⟨x, hxe⟩ : ∃ x, x = l[k] := ⟨_, rfl⟩
      rw [← hxe] at hx
      have hm : x ∈ l := by rw [hxe]; exact List.getElem_mem hlt
      clear hxe
      obtain ⟨b, o, rfl, c0, c1⟩ := (HS.out.below HB.out).place k _ hx
      have HX := Lib.hid hx
      have HM := Lib.hid hm
      clear hx hm
      have HC := Lib.hid (HT.out x HM.out wr HB.out)
      by_cases hp : p x = true
      · have HP := Lib.hid hp
        clear hp
        go_wp2_with fail
        refine HC.out.mono ?_
        rintro e w1 ⟨rfl, hb1⟩
        rw [HP.out]
        have HB1 := Lib.hid hb1
        clear hb1
        go_wp2
        refine bodyPost_ret (v := iv (idxOf p l)) (by rw [idxOf_some HX.out H0.out HP.out]; simp [results, Tryz.results169, go_sem]) rfl ⟨rfl, bl_step HB.out HB1.out⟩
      · have HP := Lib.hid (show p x = false by simpa using hp)
        clear hp
        go_wp2_with fail
        refine HC.out.mono ?_
        rintro e w1 ⟨rfl, hb1⟩
        rw [HP.out]
        have HB1 := Lib.hid hb1
        clear hb1
        go_wp2
        go_roundg (l.length - (k + 1))
        case measure => omega
        case rel => exact ⟨k + 1, by omega, rfl, by go_num, bl_step HB.out HB1.out, fun j y hj hy => by
          rcases Nat.lt_or_ge j k with h | h
          · exact H0.out j y h hy
          · obtain rfl : j = k := by omega
            have hx := HX.out
            rw [hy] at hx
            cases hx
            exact HP.out⟩
    · obtain rfl : k = l.length := by omega
      go_wp2
      refine bodyPost_ret (v := iv (idxOf p l)) (by rw [idxOf_none H0.out]; simp [results, Tryz.results169, go_sem]) rfl ⟨rfl, HB.out⟩
theorem contains131_calls {gf : Nat} {lb : Array Value} (p : DPlace → Bool) (l : List DPlace) (v : Value) (w : World) (hs : Sl DPlace.cs 2 w v l) (ht : Tells Tryz.prog gf lb (fun x => placeV x) p l w) :
    Calls Tryz.prog 131 #[v, .func (.func gf) #[] lb] w fun e w' => e = .returned (.bool (l.any p)) ∧ Below w.heap.size w w' := by
  have HC := Lib.hid (index169_calls p l v w hs ht)
  have hb := (idxOf_bounds p l).1
  have ha := idxOf_any p l
  generalize idxOf p l = i at HC hb ha
  have HA := Lib.hid ha
  clear hs ht ha
  go_enter Tryz.func131, Tryz.ntmps131
  go_wp2_with (go_at_call 169; refine HC.out.mono ?_; rintro e w' ⟨rfl, hb1⟩; have HB := Lib.hid hb1; clear hb1)
  refine bodyPost_ret (v := .bool (l.any p)) (by rw [← HA.out]; simp [results, Tryz.results131, go_sem]) rfl ⟨rfl, HB.out⟩
end Go.Proofs.YtjekioabkmijbaaGreatDoor
/- CheckSea. -/
set_option linter.unusedVariables false
set_option linter.unusedSimpArgs false
namespace Go.Proofs.YtjekioabkmijbaaGreatDoor
open Go.RowKit
theorem c103_calls (n : Int) (w : World) : Calls Tryz.prog 103 #[iv n] w fun e w' => e = .returned (.bool (!heightOk n)) ∧ Below w.heap.size w w' := by
  have e : heightOk n = inB n 0 9 := rfl
  rw [e]; clear e
  go_enter Tryz.func103, Tryz.ntmps103
  go_wp2_with (go_at_call 101; refine (in_calls _ _ _ _).mono ?_; rintro e w' ⟨rfl, rfl⟩)
  go_ret
  exact ⟨rfl, Below.refl _ _⟩
theorem c105_calls (t : DTide) (w : World) : Calls Tryz.prog 105 #[tideV t] w fun e w' => e = .returned (.bool (!tideOk t)) ∧ Below w.heap.size w w' := by
  have e : tideOk t = (inB t.al (-3) 3 && inB t.ht 0 9) := rfl
  rw [e]; clear e
  cases h : inB t.al (-3) 3 with
  | false =>
    go_enter Tryz.func105, Tryz.ntmps105
    go_wp2_with (go_at_call 101; refine (in_calls _ _ _ _).mono ?_; rintro e w' ⟨rfl, rfl⟩)
    go_ret
    exact ⟨rfl, bl_alloc (Below.refl _ _) _⟩
  | true =>
    go_enter Tryz.func105, Tryz.ntmps105
    go_wp2_with (go_at_call 101; refine (in_calls _ _ _ _).mono ?_; rintro e w' ⟨rfl, rfl⟩)
    go_ret
    exact ⟨rfl, bl_alloc (Below.refl _ _) _⟩
def seaHead (s : DSea) : Bool := inB s.cells 1 40 && inB s.bands 1 6 && (s.hts.length : Int) == s.cells && inB s.tds.length 1 30
theorem seaOk_head (s : DSea) : seaOk s = (seaHead s && !(s.hts.any fun n => !heightOk n) && !(s.tds.any fun t => !tideOk t)) := by
  unfold seaOk seaHead inB
  rw [List.not_any_eq_all_not, List.not_any_eq_all_not]
  simp only [Bool.not_not]
  congr 2
  rw [Bool.eq_iff_iff]
  simp only [Bool.and_eq_true, decide_eq_true_eq, beq_iff_eq]
  omega
def seaA (s : DSea) (vh vt : Value) : Array Value := #[iv s.cells, iv s.bands, vh, vt]
set_option maxHeartbeats 1000000 in
theorem checkSea_calls (s : DSea) (vh vt : Value) (w : World) (h1 : Sl intCs 1 w vh s.hts) (h2 : Sl DTide.cs 2 w vt s.tds) :
    Calls Tryz.prog 41 #[.agg #[iv s.cells, iv s.bands, vh, vt]] w fun e w' => e = .returned (iv (errSea s)) ∧ Below w.heap.size w w' := by
  obtain ⟨A1, c1, rfl, hc1, hl1⟩ := h1.open_
  obtain ⟨A2, c2, rfl, hc2, hl2⟩ := h2.open_
  have hb0 : Below w.heap.size w (w.alloc (.cells #[iv s.cells, iv s.bands, .slice A1 s.hts.length c1, .slice A2 s.tds.length c2] 25)) := bl_alloc (Below.refl _ _) _
  have HC1 := Lib.hid (contains102_calls (gf := 103) (lb := #[]) (fun n => !heightOk n) s.hts _ _ (h1.below hb0) ⟨enters_of Tryz.func103 (by kernel_rfl) rfl, fun x _ w1 _ => c103_calls x w1⟩)
  have H2 := Lib.hid h2
  have HB0 := Lib.hid hb0
  have HE : Hid (errSea s = if seaOk s then 0 else 1) := rfl
  rw [seaOk_head] at HE
  generalize (s.hts.any fun n => !heightOk n) = a1 at HC1 HE
  clear h1 h2 hb0
  cases e1 : inB s.cells 1 40 with
  | false =>
    have HE' : Hid (errSea s = 1) := by rw [HE.out]; unfold seaHead; rw [e1]; rfl
    go_enter Tryz.func41, Tryz.ntmps41
    go_wp2_with (go_at_call 101; refine (in_calls _ _ _ _).mono ?_; rintro e w' ⟨rfl, rfl⟩)
    exact bodyPost_ret (v := iv (errSea s)) (by rw [HE'.out]; simp [results, Tryz.results41, go_sem]) rfl ⟨rfl, HB0.out⟩
  | true =>
  cases e2 : inB s.bands 1 6 with
  | false =>
    have HE' : Hid (errSea s = 1) := by rw [HE.out]; unfold seaHead; rw [e1, e2]; rfl
    go_enter Tryz.func41, Tryz.ntmps41
    go_wp2_with (go_at_call 101; refine (in_calls _ _ _ _).mono ?_; rintro e w' ⟨rfl, rfl⟩)
    exact bodyPost_ret (v := iv (errSea s)) (by rw [HE'.out]; simp [results, Tryz.results41, go_sem]) rfl ⟨rfl, HB0.out⟩
  | true =>
  by_cases e3 : (s.hts.length : Int) = s.cells
  rotate_left
  · have HE' : Hid (errSea s = 1) := by rw [HE.out]; unfold seaHead; rw [e1, e2]; simp [e3, Hid]
    have e3' : ((s.hts.length : Int) == s.cells) = false := by simp [e3]
    go_enter Tryz.func41, Tryz.ntmps41
    go_wp2_with (go_at_call 101; refine (in_calls _ _ _ _).mono ?_; rintro e w' ⟨rfl, rfl⟩)
    exact bodyPost_ret (v := iv (errSea s)) (by rw [HE'.out]; simp [results, Tryz.results41, go_sem]) rfl ⟨rfl, HB0.out⟩
  have e3' : ((s.hts.length : Int) == s.cells) = true := by simp [e3]
  cases e4 : inB s.tds.length 1 30 with
  | false =>
    have HE' : Hid (errSea s = 1) := by rw [HE.out]; unfold seaHead; rw [e1, e2, e3', e4]; rfl
    go_enter Tryz.func41, Tryz.ntmps41
    go_wp2_with (go_at_call 101; refine (in_calls _ _ _ _).mono ?_; rintro e w' ⟨rfl, rfl⟩)
    exact bodyPost_ret (v := iv (errSea s)) (by rw [HE'.out]; simp [results, Tryz.results41, go_sem]) rfl ⟨rfl, HB0.out⟩
  | true =>
  have HH : Hid (seaHead s = true) := by unfold Hid seaHead; rw [e1, e2, e3', e4]; rfl
  have e3n := Lib.hid e3
  clear e3
  cases a1 with
  | true =>
    have HE' : Hid (errSea s = 1) := by rw [HE.out, HH.out]; rfl
    go_enter Tryz.func41, Tryz.ntmps41
    go_wp2_with (first | (go_at_call 101; refine (in_calls _ _ _ _).mono ?_; rintro e w' ⟨rfl, rfl⟩) | (go_at_call 102; refine HC1.out.mono ?_; rintro e w' ⟨rfl, hb1⟩; have HB1 := Lib.hid hb1; clear hb1))
    exact bodyPost_ret (v := iv (errSea s)) (by rw [HE'.out]; simp [results, Tryz.results41, go_sem]) rfl ⟨rfl, bl_step HB0.out HB1.out⟩
  | false =>
    go_enter Tryz.func41, Tryz.ntmps41
    go_wp2_with (go_at_call 101; refine (in_calls _ _ _ _).mono ?_; rintro e w' ⟨rfl, rfl⟩)
    refine HC1.out.mono ?_
    rintro e w1 ⟨rfl, hb1⟩
    have hb2 := bl_step HB0.out hb1
    have HB2 := Lib.hid hb2
    have HC2 := Lib.hid (contains104_calls (gf := 105) (lb := #[]) (fun t => !tideOk t) s.tds _ w1 (H2.out.below hb2) ⟨enters_of Tryz.func105 (by kernel_rfl) rfl, fun x _ w1 _ => c105_calls x w1⟩)
    have g := blk_below (blk_new w (.cells #[iv s.cells, iv s.bands, .slice A1 s.hts.length c1, .slice A2 s.tds.length c2] 25)) hb1
    have k3 := blk_cell g 3
    simp only [List.getElem?_toArray, List.getElem?_cons_zero, List.getElem?_cons_succ] at k3
    generalize (s.tds.any fun t => !tideOk t) = a2 at HC2 HE
    have HE' : Hid (errSea s = if a2 then 1 else 0) := by rw [HE.out, HH.out]; cases a2 <;> rfl
    clear hb1 hb2 g
    cases a2 with
    | true =>
      go_wp2_with (go_at_call 104; refine HC2.out.mono ?_; rintro e w' ⟨rfl, hb3⟩; have HB3 := Lib.hid hb3; clear hb3)
      exact bodyPost_ret (v := iv (errSea s)) (by rw [HE'.out]; simp [results, Tryz.results41, go_sem]) rfl ⟨rfl, bl_step HB2.out HB3.out⟩
    | false =>
      go_wp2_with (go_at_call 104; refine HC2.out.mono ?_; rintro e w' ⟨rfl, hb3⟩; have HB3 := Lib.hid hb3; clear hb3)
      exact bodyPost_ret (v := iv (errSea s)) (by rw [HE'.out]; simp [results, Tryz.results41, go_sem]) rfl ⟨rfl, bl_step HB2.out HB3.out⟩
end Go.Proofs.YtjekioabkmijbaaGreatDoor
