/- What the machine of transactions does, as plain functions. -/
import Derived.Test.YtngimbfojccikaaStWordsm
namespace Go.Proofs.Ytngimbfojccikaa
set_option linter.unusedSimpArgs false
open Go Go.RowKit
set_option linter.unusedVariables false

/-- An act. -/
structure Ac where
  d : Int
  at_ : Int
  v : Int
deriving DecidableEq
def encAc (x : Ac) : List Value := [.int .i64 x.d, .int .i64 x.at_, .int .i64 x.v]
theorem encAc_len : ∀ x : Ac, (encAc x).length = 3 := fun _ => rfl

/-- Addresses left out. -/
def erX (x : Rx) : Rx := { x with rA := none, rc := 0, wA := none, wc := 0 }
def erT (t : Tx) : Tx := { t with rA := none, rc := 0, wA := none, wc := 0 }
def Mm.er (m : Mm) : Mm := { m with T := m.T.map erT, H := m.H.map erX }

def Tx.zero : Tx := ⟨0, 0, 0, 0, 0, 0, 0, none, 0, [], none, 0, [], 0, 0⟩
def beginM (m : Mm) (k : Nat) (t : Tx) : Mm := { m with T := m.T.set k { t with try_ := t.try_ + 1, rv := m.now, fr := m.time, st := 1 } }
def tellR (m : Mm) (k : Nat) (t : Tx) (how : Int) : Rx := ⟨k, t.tx, t.try_, how, t.rv, t.wv, none, 0, t.R, none, 0, t.W, t.fr, m.time⟩
def tellM (m : Mm) (k : Nat) (t : Tx) (how : Int) : Mm := { m with H := m.H ++ [tellR m k t how] }
def overT (t : Tx) (how : Int) : Tx := if how = 1 ∧ t.try_ < 3 then { Tx.zero with tx := t.tx, try_ := t.try_ } else { Tx.zero with tx := t.tx + 1 }
def overM (m : Mm) (k : Nat) (t : Tx) (how : Int) : Mm := { m with T := m.T.set k (overT t how) }
def endM (m : Mm) (k : Nat) (t : Tx) (how : Int) : Mm := overM (tellM m k t how) k t how
def dropO (who : Int) (l : Lk) : Lk := if l.o = who then ⟨l.v, -1⟩ else l
def quitM (m : Mm) (k : Nat) (t : Tx) (how : Int) : Mm := endM { m with L := m.L.map (dropO k) } k t how
/-- A value written at its place among all. -/
def writeP (W : List Pr) (a v : Int) : List Pr :=
  match W[W.findIdx (fun p => decide (a ≤ p.at_))]? with
  | some p => if p.at_ = a then W.set (W.findIdx (fun p => decide (a ≤ p.at_))) ⟨p.at_, v⟩ else W.take (W.findIdx (fun p => decide (a ≤ p.at_))) ++ ⟨a, v⟩ :: W.drop (W.findIdx (fun p => decide (a ≤ p.at_)))
  | none => W ++ [⟨a, v⟩]
/-- What is read, and what has been read then; none, if it may not be. -/
def getP (m : Mm) (k : Nat) (t : Tx) (a : Int) : Option (Int × List Pr) :=
  match t.W[t.W.findIdx (fun p => p.at_ == a)]? with
  | some p => some (p.v, t.R)
  | none => if seesL m.now m.mx m.L a t.rv k = true then some (m.W.getD a.toNat 0, t.R ++ [⟨a, m.W.getD a.toNat 0⟩]) else none
def actM (m : Mm) (k : Nat) (t : Tx) (a : Ac) : Mm :=
  if a.d = 1 then { m with T := m.T.set k { t with W := writeP t.W a.at_ a.v, pc := t.pc + 1 } }
  else if a.d = 2 then { m with T := m.T.set k { t with W := writeP t.W a.at_ (IntKind.i64.wrap (t.sum + a.v)), pc := t.pc + 1 } }
  else match getP m k t a.at_ with
    | some (v, R) => { m with T := m.T.set k { t with R := R, sum := IntKind.i64.wrap (t.sum + v), pc := t.pc + 1 } }
    | none => endM m k t 1
def workM (l : List Ac) (m : Mm) (k : Nat) (t : Tx) : Mm :=
  match l[t.pc.toNat]? with
  | some a => actM m k t a
  | none => if t.W.length = 0 then endM m k t 0 else { m with T := m.T.set k { t with st := 2, i := 0 } }
def holdM (m : Mm) (k : Nat) (t : Tx) : Mm :=
  match t.W[t.i.toNat]? with
  | some x => if (takeL m.now m.mx m.L x.at_ k).1 = 0 then { m with L := (takeL m.now m.mx m.L x.at_ k).2, T := m.T.set k { t with i := t.i + 1, st := if t.i + 1 = t.W.length then 3 else t.st } } else quitM m k t 1
  | none => m
def tickM (m : Mm) (k : Nat) (t : Tx) : Mm :=
  if (tickL m.now m.mx m.L).2.2 = 0 then { m with now := (tickL m.now m.mx m.L).1, T := m.T.set k { t with wv := (tickL m.now m.mx m.L).2.1, st := 4, i := 0 } } else quitM m k t 2
def checkM (m : Mm) (k : Nat) (t : Tx) : Mm :=
  match t.R[t.i.toNat]? with
  | some x => if seesL m.now m.mx m.L x.at_ t.rv k = true then { m with T := m.T.set k { t with i := t.i + 1 } } else quitM m k t 1
  | none => { tellM m k t 0 with T := m.T.set k { t with st := 5, i := 0 } }
def backM (m : Mm) (k : Nat) (t : Tx) : Mm :=
  match t.W[t.i.toNat]? with
  | some x => { m with W := m.W.set x.at_.toNat x.v, L := (giveL m.now m.mx m.L x.at_ k t.wv).2, T := m.T.set k (if t.i + 1 = t.W.length then overT t 0 else { t with i := t.i + 1 }) }
  | none => m
def doM (txs : List (List Ac)) (m : Mm) (k : Nat) (t : Tx) : Mm :=
  if t.st = 0 then beginM m k t else if t.st = 1 then workM (txs.getD t.tx.toNat []) m k t else if t.st = 2 then holdM m k t else if t.st = 3 then tickM m k t else if t.st = 4 then checkM m k t else backM m k t
/-- One step of thread k. -/
def stepK (pl : List (List (List Ac))) (m : Mm) (k : Nat) : Mm :=
  match m.T[k]?, pl[k]? with
  | some t, some txs => if t.tx < txs.length then doM txs m k t else m
  | _, _ => m
def stepM (pl : List (List (List Ac))) (m : Mm) (who : Int) : Mm := if 0 ≤ who then stepK pl m who.toNat else m
def timeM (m : Mm) : Mm := { m with time := m.time + 1 }
def initM (words : Nat) (mx : Int) (n : Nat) : Mm := ⟨List.replicate words 0, 0, mx, List.replicate words ⟨0, -1⟩, List.replicate n Tx.zero, [], 0⟩
def runFrom (pl : List (List (List Ac))) (m : Mm) (picks : List Int) : Mm := picks.foldl (fun m who => timeM (stepM pl m who)) m
def runM (words : Nat) (mx : Int) (pl : List (List (List Ac))) (picks : List Int) : Mm := runFrom pl (initM words mx pl.length) picks

theorem er_er (m : Mm) : m.er.er = m.er := by
  unfold Mm.er
  simp only [List.map_map]
  congr 1
theorem er_set (m : Mm) (k : Nat) (t : Tx) : ({ m with T := m.T.set k t } : Mm).er = { m.er with T := m.er.T.set k (erT t) } := by
  unfold Mm.er
  simp only [List.map_set]
theorem er_T (m : Mm) (k : Nat) : m.er.T[k]? = m.T[k]?.map erT := by unfold Mm.er; rw [List.getElem?_map]
theorem erX_tell (m : Mm) (k : Nat) (t : Tx) (how : Int) : erX (tellR m k t how) = tellR m.er k (erT t) how := rfl
theorem er_tell (m : Mm) (k : Nat) (t : Tx) (how : Int) : (tellM m k t how).er = tellM m.er k (erT t) how := by
  unfold tellM Mm.er
  simp only [List.map_append, List.map_cons, List.map_nil]
  rfl
theorem erT_over (t : Tx) (how : Int) : erT (overT t how) = overT (erT t) how := by
  unfold overT
  show erT (if how = 1 ∧ t.try_ < 3 then _ else _) = (if how = 1 ∧ t.try_ < 3 then _ else _)
  split <;> rfl
theorem er_over (m : Mm) (k : Nat) (t : Tx) (how : Int) : (overM m k t how).er = overM m.er k (erT t) how := by
  unfold overM
  rw [er_set, erT_over]
theorem er_end (m : Mm) (k : Nat) (t : Tx) (how : Int) : (endM m k t how).er = endM m.er k (erT t) how := by
  unfold endM
  rw [er_over, er_tell]
theorem er_quit (m : Mm) (k : Nat) (t : Tx) (how : Int) : (quitM m k t how).er = quitM m.er k (erT t) how := by
  unfold quitM
  rw [er_end]
  rfl
theorem er_act (m : Mm) (k : Nat) (t : Tx) (a : Ac) : (actM m k t a).er = actM m.er k (erT t) a := by
  unfold actM
  have hg : getP m.er k (erT t) a.at_ = getP m k t a.at_ := rfl
  rw [hg]
  split
  · rw [er_set]; rfl
  · split
    · rw [er_set]; rfl
    · cases getP m k t a.at_ with
      | none => exact er_end m k t 1
      | some p => obtain ⟨v, R⟩ := p; exact er_set m k _
theorem er_do (txs : List (List Ac)) (m : Mm) (k : Nat) (t : Tx) : (doM txs m k t).er = doM txs m.er k (erT t) := by
  unfold doM
  show Mm.er (if t.st = 0 then _ else if t.st = 1 then _ else if t.st = 2 then _ else if t.st = 3 then _ else if t.st = 4 then _ else _) = (if t.st = 0 then _ else if t.st = 1 then _ else if t.st = 2 then _ else if t.st = 3 then _ else if t.st = 4 then _ else _)
  split
  · exact er_set m k _
  split
  · unfold workM
    show Mm.er (match (txs.getD t.tx.toNat [])[t.pc.toNat]? with | some a => _ | none => _) = (match (txs.getD t.tx.toNat [])[t.pc.toNat]? with | some a => _ | none => _)
    cases (txs.getD t.tx.toNat [])[t.pc.toNat]? with
    | some a => exact er_act m k t a
    | none =>
      show Mm.er (if t.W.length = 0 then _ else _) = (if t.W.length = 0 then _ else _)
      split
      · exact er_end m k t 0
      · exact er_set m k _
  split
  · unfold holdM
    show Mm.er (match t.W[t.i.toNat]? with | some a => _ | none => _) = (match t.W[t.i.toNat]? with | some a => _ | none => _)
    cases t.W[t.i.toNat]? with
    | none => rfl
    | some x =>
      show Mm.er (if (takeL m.now m.mx m.L x.at_ k).1 = 0 then _ else _) = (if (takeL m.now m.mx m.L x.at_ k).1 = 0 then _ else _)
      split
      · simp only [Mm.er, List.map_set]; rfl
      · exact er_quit m k t 1
  split
  · unfold tickM
    show Mm.er (if (tickL m.now m.mx m.L).2.2 = 0 then _ else _) = (if (tickL m.now m.mx m.L).2.2 = 0 then _ else _)
    split
    · simp only [Mm.er, List.map_set]; rfl
    · exact er_quit m k t 2
  split
  · unfold checkM
    show Mm.er (match t.R[t.i.toNat]? with | some a => _ | none => _) = (match t.R[t.i.toNat]? with | some a => _ | none => _)
    cases t.R[t.i.toNat]? with
    | none =>
      have h1 := er_set (tellM m k t 0) k { t with st := 5, i := 0 }
      have h2 := er_tell m k t 0
      rw [h2] at h1
      exact h1
    | some x =>
      show Mm.er (if seesL m.now m.mx m.L x.at_ t.rv k = true then _ else _) = (if seesL m.now m.mx m.L x.at_ t.rv k = true then _ else _)
      split
      · exact er_set m k _
      · exact er_quit m k t 1
  · unfold backM
    show Mm.er (match t.W[t.i.toNat]? with | some a => _ | none => _) = (match t.W[t.i.toNat]? with | some a => _ | none => _)
    cases t.W[t.i.toNat]? with
    | none => rfl
    | some x =>
      have h1 := er_set { m with W := m.W.set x.at_.toNat x.v, L := (giveL m.now m.mx m.L x.at_ k t.wv).2 } k (if t.i + 1 = t.W.length then overT t 0 else { t with i := t.i + 1 })
      refine h1.trans ?_
      have h2 : erT (if t.i + 1 = t.W.length then overT t 0 else { t with i := t.i + 1 }) = if t.i + 1 = t.W.length then overT (erT t) 0 else { erT t with i := t.i + 1 } := by
        split
        · exact erT_over t 0
        · rfl
      rw [h2]
      rfl
theorem er_stepK (pl : List (List (List Ac))) (m : Mm) (k : Nat) : (stepK pl m k).er = stepK pl m.er k := by
  unfold stepK
  rw [er_T]
  cases m.T[k]? with
  | none => rfl
  | some t =>
    cases pl[k]? with
    | none => rfl
    | some txs =>
      show Mm.er (if t.tx < txs.length then _ else _) = (if t.tx < txs.length then _ else _)
      split
      · exact er_do txs m k t
      · rfl
theorem er_step (pl : List (List (List Ac))) (m : Mm) (who : Int) : (stepM pl m who).er = stepM pl m.er who := by
  unfold stepM
  split
  · exact er_stepK pl m _
  · rfl
end Go.Proofs.Ytngimbfojccikaa
