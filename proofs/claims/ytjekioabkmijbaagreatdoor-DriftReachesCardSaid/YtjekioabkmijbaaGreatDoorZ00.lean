/-
  DERIVED: THE SHELF's CONTRACTS AT THIS DUMP, IN PLAIN WORDS (tools/lay-plain.mjs out of 'YtjekioabkmijbaaGreatDoorShSort.lean', which tools/lay-shelf.mjs wrote): THE SAME DECLARATIONS UNDER THE SAME NAMES: 'import', 'namespace', 'open', 'def', 'theorem' AND NOTHING ELSE: no command of the shelf's: FOR A HAND-IN. Each laying: the table of numbers ('.._ren') and one theorem, a field a fact of the dump's own or the kernel's comparison; each contract: ONE APPLICATION.
-/
import Derived.Shelf.LaysM
import Derived.Shelf.Sort.Plain
import Derived.Ground.Names2Prog
import Derived.Shelf.Slices.In.SortNone
import Derived.Test.YtjekioabkmijbaaGreatDoorProg
namespace Go.Proofs
open Go.Shelf
def Tryz.lays189_ren : Go.Shelf.Ren := ⟨fun | 189 => 91 | 125 => 149 | 257 => 148 | 128 => 180 | 129 => 181 | 294 => 171 | 295 => 172 | 296 => 173 | 297 => 174 | 298 => 175 | 299 => 176 | 216 => 177 | 300 => 178 | 301 => 179 | 328 => 197 | 329 => 198 | 330 => 199 | 331 => 200 | 332 => 201 | 215 => 202 | 343 => 219 | n => n, fun | 28 => 22 | 3 => 3 | 46 => 196 | 0 => 0 | 51 => 238 | 53 => 113 | 4 => 4 | 183 => 231 | 182 => 230 | 131 => 163 | 5 => 5 | 9 => 9 | 218 => 248 | 222 => 252 | 228 => 271 | 229 => 272 | n => n, fun | n => n⟩
theorem Tryz.lays189 : Go.Proofs.Lays.n189 Tryz.prog Tryz.lays189_ren := {
  mixed := by kernel_rfl
  f125 := Tryz.func149.trans (congrArg some (by kernel_rfl))
  f128 := Tryz.func180.trans (congrArg some (by kernel_rfl))
  f129 := Tryz.func181.trans (congrArg some (by kernel_rfl))
  f189 := Tryz.func91.trans (congrArg some (by kernel_rfl))
  f215 := Tryz.func202.trans (congrArg some (by kernel_rfl))
  f216 := Tryz.func177.trans (congrArg some (by kernel_rfl))
  f257 := Tryz.func148.trans (congrArg some (by kernel_rfl))
  f294 := Tryz.func171.trans (congrArg some (by kernel_rfl))
  f295 := Tryz.func172.trans (congrArg some (by kernel_rfl))
  f296 := Tryz.func173.trans (congrArg some (by kernel_rfl))
  f297 := Tryz.func174.trans (congrArg some (by kernel_rfl))
  f298 := Tryz.func175.trans (congrArg some (by kernel_rfl))
  f299 := Tryz.func176.trans (congrArg some (by kernel_rfl))
  f300 := Tryz.func178.trans (congrArg some (by kernel_rfl))
  f301 := Tryz.func179.trans (congrArg some (by kernel_rfl))
  f328 := Tryz.func197.trans (congrArg some (by kernel_rfl))
  f329 := Tryz.func198.trans (congrArg some (by kernel_rfl))
  f330 := Tryz.func199.trans (congrArg some (by kernel_rfl))
  f331 := Tryz.func200.trans (congrArg some (by kernel_rfl))
  f332 := Tryz.func201.trans (congrArg some (by kernel_rfl))
  f343 := Tryz.func219.trans (congrArg some (by kernel_rfl))
  t0 := Tryz.underlying0
  a0 := Tryz.isAgg0
  z0 := Tryz.sizeOf0
  v0 := Tryz.zeroValue0
  t3 := Tryz.underlying3
  a3 := Tryz.isAgg3
  z3 := Tryz.sizeOf3
  v3 := Tryz.zeroValue3
  t4 := Tryz.underlying4
  a4 := Tryz.isAgg4
  z4 := Tryz.sizeOf4
  v4 := Tryz.zeroValue4
  t5 := Tryz.underlying5
  a5 := Tryz.isAgg5
  z5 := Tryz.sizeOf5
  v5 := Tryz.zeroValue5
  t9 := Tryz.underlying9
  a9 := Tryz.isAgg9
  z9 := Tryz.sizeOf9
  v9 := Tryz.zeroValue9
  t28 := Tryz.underlying22
  a28 := Tryz.isAgg22
  z28 := Tryz.sizeOf22
  v28 := Tryz.zeroValue22
  t46 := Tryz.underlying196
  a46 := Tryz.isAgg196
  z46 := Tryz.sizeOf196
  v46 := Tryz.zeroValue196
  t51 := Tryz.underlying238
  a51 := Tryz.isAgg238
  z51 := Tryz.sizeOf238
  v51 := Tryz.zeroValue238
  t53 := Tryz.underlying113
  a53 := Tryz.isAgg113
  z53 := Tryz.sizeOf113
  v53 := Tryz.zeroValue113
  t131 := Tryz.underlying163
  a131 := Tryz.isAgg163
  z131 := Tryz.sizeOf163
  v131 := Tryz.zeroValue163
  t182 := Tryz.underlying230
  a182 := Tryz.isAgg230
  z182 := Tryz.sizeOf230
  v182 := Tryz.zeroValue230
  t183 := Tryz.underlying231
  a183 := Tryz.isAgg231
  z183 := Tryz.sizeOf231
  v183 := Tryz.zeroValue231
  t218 := Tryz.underlying248
  a218 := Tryz.isAgg248
  z218 := Tryz.sizeOf248
  v218 := Tryz.zeroValue248
  t222 := Tryz.underlying252
  a222 := Tryz.isAgg252
  z222 := Tryz.sizeOf252
  v222 := Tryz.zeroValue252
  t228 := Tryz.underlying271
  a228 := Tryz.isAgg271
  z228 := Tryz.sizeOf271
  v228 := Tryz.zeroValue271
  t229 := Tryz.underlying272
  a229 := Tryz.isAgg272
  z229 := Tryz.sizeOf272
  v229 := Tryz.zeroValue272 }
open Go.Sort Go.RowKit in
theorem Tryz.slices_Sort_int (blk off cap : Nat) (zs : List Int) (w : World) (hH : Holds (Value.int .i64) w blk off zs.toArray) (hblk : blk < w.heap.size) (hsz : zs.length < 4611686018427387904) :
    Calls Tryz.prog 91 #[.slice (some ⟨blk, off, none⟩) zs.length cap] w fun e w' =>
      e = .returned (.tuple #[]) ∧ ∃ n os, w' = grow (putRow (Value.int .i64) (Sort.ahead w n) blk off (zs.mergeSort fun x y => decide (x ≤ y)).toArray) os := Any.slices_Sort_int Tryz.lays189 blk off cap zs w hH hblk hsz
open Go.RowKit Go.Sort in
/-- .. and plain. (LAID: no walk: one application.) -/
theorem Tryz.slices_Sort_int_none (p : Option Addr) (cap : Nat) (w : World) :
    Calls Tryz.prog 91 #[.slice p 0 cap] w fun e w' => e = .returned (.tuple #[]) ∧ w' = w := Any.slices_Sort_int_none Tryz.lays189 p cap w
end Go.Proofs
/- Plain definitions: what the functions of drift compute, over lists and numbers. -/
namespace Go.Proofs.YtjekioabkmijbaaGreatDoor
structure DTide where
  al : Int
  ht : Int
deriving DecidableEq
structure DSea where
  cells : Int
  bands : Int
  hts : List Int
  tds : List DTide
deriving DecidableEq
structure DWind where
  id : Int
  kn : Int
  fr : Int
  un : Int
  al : Int
  ah : Int
  sl : Int
  sh : Int
  vo : Int
deriving DecidableEq
structure DLoss where
  id : Int
  cl : Int
  ch : Int
  bl : Int
  bh : Int
  hl : Int
  hh : Int
deriving DecidableEq
structure DPlace where
  c : Int
  b : Int
deriving DecidableEq
structure DLand where
  c : Int
  f : Int
  l : Int
deriving DecidableEq

/-! ### The sea, winds, losses -/
def tideOk (t : DTide) : Bool := decide (-3 ≤ t.al) && decide (t.al ≤ 3) && (decide (0 ≤ t.ht) && decide (t.ht ≤ 9))
def heightOk (h : Int) : Bool := decide (0 ≤ h) && decide (h ≤ 9)
def seaOk (s : DSea) : Bool :=
  decide (1 ≤ s.cells ∧ s.cells ≤ 40 ∧ 1 ≤ s.bands ∧ s.bands ≤ 6 ∧ (s.hts.length : Int) = s.cells ∧ 1 ≤ s.tds.length ∧ s.tds.length ≤ 30) && s.hts.all heightOk && s.tds.all tideOk
def errSea (s : DSea) : Int := if seaOk s then 0 else 1
def rangeOk (lo hi a b : Int) : Bool := decide (lo ≤ hi ∧ a ≤ lo ∧ hi ≤ b)
def inB (n a b : Int) : Bool := decide (a ≤ n) && decide (n ≤ b)
def gustOk (x : DWind) : Bool := ((inB x.fr 0 x.un && decide (x.un ≤ 1000000)) && rangeOk x.al x.ah (-2) 2) && rangeOk x.sl x.sh (-2) 2
def voidOk (x : DWind) : Bool := inB x.vo 1 1000000 && (x.fr == 0 && (x.un == 0 && (x.al == 0 && (x.ah == 0 && (x.sl == 0 && x.sh == 0)))))
def windOk (x : DWind) : Bool := inB x.id 1 1000000 && inB x.kn 0 1000000 && if x.vo = 0 then gustOk x else voidOk x
def errWind (x : DWind) : Int := if windOk x then 0 else 1
/-- The error of a record behind others. -/
def errNext (l : List DWind) (x : DWind) : Int :=
  if 200 ≤ l.length then 2
  else if windOk x = false then 1
  else if l.any (fun y => y.id == x.id) then 6
  else if (l.getLast?.any fun y => decide (x.kn < y.kn)) then 7
  else if x.vo = 0 then 0
  else if l.any (fun y => y.vo == 0 && y.id == x.vo) = false then 5
  else if l.any (fun y => y.vo == x.vo) then 6
  else 0
def errLogFrom : List DWind → List DWind → Int × Int
  | _, [] => (0, 0)
  | pre, x :: r => if errNext pre x = 0 then errLogFrom (pre ++ [x]) r else ((pre.length : Int), errNext pre x)
def errLog (l : List DWind) : Int × Int := errLogFrom [] l
def counts (l : List DWind) (known : Int) (x : DWind) : Bool :=
  (x.vo == 0 && decide (x.kn ≤ known)) && !(l.any fun y => (y.vo != 0 && decide (y.kn ≤ known)) && y.vo == x.id)
def counting (l : List DWind) (known : Int) : List DWind := l.filter (counts l known)
def blows (h : Int) (x : DWind) : Bool := decide (x.fr ≤ h) && decide (h ≤ x.un)
def windAt (l : List DWind) (h : Int) : Option DWind := l.reverse.find? (blows h)
def lossOk (s : DSea) (x : DLoss) : Bool :=
  decide (1 ≤ x.id ∧ x.id ≤ 20) && rangeOk x.cl x.ch 0 (s.cells - 1) && rangeOk x.bl x.bh 1 s.bands && rangeOk x.hl x.hh 0 1000000
def errLoss (s : DSea) (x : DLoss) : Int := if seaOk s && lossOk s x then 0 else 1
def placeOk (s : DSea) (p : DPlace) : Bool := decide (0 ≤ p.c) && decide (p.c ≤ s.cells - 1) && (decide (0 ≤ p.b) && decide (p.b ≤ s.bands))
def errPlace (s : DSea) (p : DPlace) : Int := if placeOk s p then 0 else 20
def errHour (h : Int) : Int := if 0 ≤ h ∧ h ≤ 1000000 then 0 else 1
def errFar (x : DLoss) (h : Int) : Int := if errHour h = 0 then (if x.hl ≤ h ∧ h ≤ x.hl + 200 then 0 else 21) else 1
def orE (a b : Int) : Int := if a = 0 then b else a
def errSail (s : DSea) (l : List DWind) (xs : List DLoss) (f : Int) : Int :=
  orE (errSea s) (orE (errLog l).2 (orE ((xs.map (errLoss s)).foldr orE 0) (if f = 1 ∨ f = 2 then 0 else 1)))
def errAsk (s : DSea) (l : List DWind) (x : DLoss) (f : Int) (p : Option DPlace) (h : Int) : Int :=
  orE (errSail s l [x] f) (orE (match p with | none => 0 | some p => errPlace s p) (errFar x h))

/-! ### Sets of places: the bits of a number; 7 for each cell -/
def num (p : DPlace) : Nat := (p.c * 7 + p.b).toNat
def placed (n : Nat) : DPlace := ⟨((n / 7 : Nat) : Int), ((n % 7 : Nat) : Int)⟩
def bit (p : DPlace) : Nat := 1 <<< num p
def placesOf (m : Nat) : List DPlace := ((List.range 320).filter fun n => m.testBit n).map placed
def pfx (lo : Int) (k : Nat) : List Int := (List.range k).map fun (i : Nat) => lo + (i : Int)
def ints (lo hi : Int) : List Int := pfx lo (hi + 1 - lo).toNat
theorem pfx_snoc (lo : Int) (k : Nat) : pfx lo (k + 1) = pfx lo k ++ [lo + (k : Int)] := by simp [pfx, List.range_succ]
theorem fold_snoc {α : Type} (f : α → Int → α) (a : α) (lo : Int) (k : Nat) : (pfx lo (k + 1)).foldl f a = f ((pfx lo k).foldl f a) (lo + (k : Int)) := by rw [pfx_snoc, List.foldl_append]; rfl
def clamp (n lo hi : Int) : Int := min (max n lo) hi
def tideAt (s : DSea) (h : Int) : DTide := s.tds.getD (h % (s.tds.length : Int)).toNat ⟨0, 0⟩
def gust (ws : List DWind) (h : Int) : Int × Int × Int × Int :=
  match windAt ws h with
  | some x => (x.al, x.ah, x.sl, x.sh)
  | none => (-2, 2, -2, 2)
def landing (s : DSea) (f : Int) (p : DPlace) (t a r : Int) : DPlace := ⟨clamp (p.c + t + a * f) 0 (s.cells - 1), clamp (p.b - r * f) 0 s.bands⟩
def driftM (s : DSea) (f : Int) (p : DPlace) (t : Int) (g : Int × Int × Int × Int) : Nat :=
  (ints g.1 g.2.1).foldl (fun m a => (ints g.2.2.1 g.2.2.2).foldl (fun m r => m ||| bit (landing s f p t a r)) m) 0
def movesM (s : DSea) (ws : List DWind) (f : Int) (p : DPlace) (h : Int) : Nat :=
  if p.b = 0 then bit p ||| (if s.hts.getD p.c.toNat 0 ≤ (tideAt s h).ht then bit ⟨p.c, 1⟩ else 0)
  else driftM s f p (tideAt s h).al (gust ws h)
def begunM (x : DLoss) (h : Int) : Nat :=
  if x.hl ≤ h ∧ h ≤ x.hh then (ints x.cl x.ch).foldl (fun m c => (ints x.bl x.bh).foldl (fun m b => m ||| bit ⟨c, b⟩) m) 0 else 0
def nextM (s : DSea) (ws : List DWind) (f : Int) (m : Nat) (h : Int) : Nat :=
  (placesOf m).foldl (fun acc p => acc ||| movesM s ws f p h) 0
/-- Where a package can be k hours behind the first one of its loss. -/
def setAt (s : DSea) (ws : List DWind) (f : Int) (x : DLoss) : Nat → Nat
  | 0 => begunM x x.hl
  | k + 1 => nextM s ws f (setAt s ws f x k) (x.hl + (k : Int)) ||| begunM x (x.hl + (k : Int) + 1)
def reachM (s : DSea) (ws : List DWind) (f : Int) (x : DLoss) (h : Int) : Nat := setAt s ws f x (h - x.hl).toNat
def hasM (m : Nat) (p : DPlace) : Bool := m.testBit (num p)
end Go.Proofs.YtjekioabkmijbaaGreatDoor
