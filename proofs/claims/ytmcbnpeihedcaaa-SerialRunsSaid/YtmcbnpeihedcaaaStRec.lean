/- Tries, threads, and lists of whole numbers, as data. Nothing of a program's functions is named here. -/
import Derived.Test.YtmcbnpeihedcaaaProg
import Derived.Test.YtmcbnpeihedcaaaWords
namespace Go.Proofs.Ytmcbnpeihedcaaa
set_option linter.unusedSimpArgs false
open Go Go.RowKit

/-- A word's place, and a value. -/
structure Pr where
  at_ : Int
  v : Int
deriving DecidableEq

def encPr (p : Pr) : List Value := [.int .i64 p.at_, .int .i64 p.v]
theorem encPr_len : ∀ x : Pr, (encPr x).length = 2 := fun _ => rfl
theorem encPr_one (l : List Pr) : ∀ u ∈ l.flatMap encPr, u.oneCell' = true := by
  intro u hu
  rw [List.mem_flatMap] at hu
  obtain ⟨x, _, hx⟩ := hu
  simp [encPr] at hx
  rcases hx with rfl | rfl <;> rfl

/-- A try, as its ten cells say it. -/
structure Rx where
  who : Int
  tx : Int
  try_ : Int
  en : Int
  rv : Int
  wv : Int
  rA : Option Addr
  rc : Nat
  R : List Pr
  wA : Option Addr
  wc : Nat
  W : List Pr
  fr : Int
  to_ : Int

def encRx (x : Rx) : List Value := [.int .i64 x.who, .int .i64 x.tx, .int .i64 x.try_, .int .i64 x.en, .int .i64 x.rv, .int .i64 x.wv, .slice x.rA x.R.length x.rc, .slice x.wA x.W.length x.wc, .int .i64 x.fr, .int .i64 x.to_]
theorem encRx_len : ∀ x : Rx, (encRx x).length = 10 := fun _ => rfl
theorem encRx_one (l : List Rx) : ∀ u ∈ l.flatMap encRx, u.oneCell' = true := by
  intro u hu
  rw [List.mem_flatMap] at hu
  obtain ⟨x, _, hx⟩ := hu
  simp [encRx] at hx
  rcases hx with rfl | rfl | rfl | rfl | rfl | rfl | rfl | rfl | rfl | rfl <;> rfl

/-- Its two slices read as their pairs. -/
def RxOk (w : World) (x : Rx) : Prop := Sl w 2 (.slice x.rA x.R.length x.rc) x.R.length (x.R.flatMap encPr) ∧ Sl w 2 (.slice x.wA x.W.length x.wc) x.W.length (x.W.flatMap encPr)
theorem RxOk.below {w w' : World} {x : Rx} (h : RxOk w x) (hb : Below w.heap.size w w') : RxOk w' x := ⟨h.1.below hb, h.2.below hb⟩
/-- A slice of tries. -/
def RecsV (w : World) (v : Value) (h : List Rx) : Prop := Sl w 10 v h.length (h.flatMap encRx) ∧ ∀ x ∈ h, RxOk w x
theorem RecsV.below {w w' : World} {v : Value} {h : List Rx} (hv : RecsV w v h) (hb : Below w.heap.size w w') : RecsV w' v h := ⟨hv.1.below hb, fun x hx => (hv.2 x hx).below hb⟩
theorem RecsV.keep {w w' : World} {v : Value} {h : List Rx} (hv : RecsV w v h) (hb : Below w.heap.size w w') : RecsV w' v h := hv.below hb

def encI (x : Int) : List Value := [.int .i64 x]
theorem encI_len : ∀ x : Int, (encI x).length = 1 := fun _ => rfl
theorem encI_one (t : List Int) : ∀ u ∈ t.flatMap encI, u.oneCell' = true := by
  intro u hu
  rw [List.mem_flatMap] at hu
  obtain ⟨x, _, hx⟩ := hu
  simp [encI] at hx
  subst hx; rfl
theorem flat_encI (t : List Int) : t.flatMap encI = t.map (Value.int .i64) := by
  induction t with
  | nil => rfl
  | cons x t ih => rw [List.flatMap_cons, ih]; rfl
theorem encI_get (t : List Int) (j : Nat) (hj : j < t.length) : (t.flatMap encI)[j]? = some (.int .i64 t[j]) := by
  rw [flat_encI, List.getElem?_map, List.getElem?_eq_getElem hj]; rfl

/-- A thread, as its eleven cells say it. -/
structure Tx where
  st : Int
  tx : Int
  try_ : Int
  pc : Int
  rv : Int
  wv : Int
  sum : Int
  rA : Option Addr
  rc : Nat
  R : List Pr
  wA : Option Addr
  wc : Nat
  W : List Pr
  i : Int
  fr : Int

def encTx (x : Tx) : List Value := [.int .i64 x.st, .int .i64 x.tx, .int .i64 x.try_, .int .i64 x.pc, .int .i64 x.rv, .int .i64 x.wv, .int .i64 x.sum, .slice x.rA x.R.length x.rc, .slice x.wA x.W.length x.wc, .int .i64 x.i, .int .i64 x.fr]
theorem encTx_len : ∀ x : Tx, (encTx x).length = 11 := fun _ => rfl
theorem encTx_one (l : List Tx) : ∀ u ∈ l.flatMap encTx, u.oneCell' = true := by
  intro u hu
  rw [List.mem_flatMap] at hu
  obtain ⟨x, _, hx⟩ := hu
  simp [encTx] at hx
  rcases hx with rfl | rfl | rfl | rfl | rfl | rfl | rfl | rfl | rfl | rfl | rfl <;> rfl
end Go.Proofs.Ytmcbnpeihedcaaa
