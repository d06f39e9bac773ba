/- The machine of transactions at work: what a state is, as data, and what it is in memory; what each store comes to. -/
import Derived.Test.YtngimbfojccikaaStmTellsA
import Derived.Test.YtngimbfojccikaaLkTickm
import Derived.Deep.MidRow
namespace Go.Proofs.Ytngimbfojccikaa
set_option linter.unusedSimpArgs false
open Go Go.RowKit
set_option linter.unusedVariables false

/-- Words, the clock, its end, locks, threads, tries that ended, the time. -/
structure Mm where
  W : List Int
  now : Int
  mx : Int
  L : List Lk
  T : List Tx
  H : List Rx
  time : Int

/-- Where the rows lie. -/
structure Ad where
  gW : Nat
  cW : Nat
  lA : Option Addr
  lc : Nat
  gT : Nat
  cT : Nat
  hA : Option Addr
  hc : Nat

/-- A row in that place has that mark. -/
def Tg (φ : Nat → Nat) (tag : Nat) (A : Option Addr) : Prop := ∀ b, A = some b → φ b.block = tag
/-- A row of pairs of one's own. -/
def PRow (w : World) (base : Nat) (A : Option Addr) (c : Nat) (l : List Pr) : Prop := w.ownsRow base 55 2 (.slice A l.length c) l.length (l.flatMap encPr)
structure TxOk (w : World) (base : Nat) (φ : Nat → Nat) (k : Nat) (t : Tx) : Prop where
  R : PRow w base t.rA t.rc t.R
  W : PRow w base t.wA t.wc t.W
  gR : Tg φ (2 * k + 1) t.rA
  gW : Tg φ (2 * k + 2) t.wA
structure HxOk (w : World) (base : Nat) (φ : Nat → Nat) (x : Rx) : Prop where
  R : PRow w base x.rA x.rc x.R
  W : PRow w base x.wA x.wc x.W
  gR : Tg φ 0 x.rA
  gW : Tg φ 0 x.wA

def runCells (a : Ad) (m : Mm) (pw pm : Int) (pv : Value) (who : Int) : List Value :=
  [.slice (some ⟨a.gW, 0, none⟩) m.W.length a.cW, .int .i64 m.now, .int .i64 m.mx, .slice a.lA m.L.length a.lc, .slice (some ⟨a.gT, 0, none⟩) m.T.length a.cT, .slice a.hA m.H.length a.hc, .int .i64 m.time, .int .i64 pw, .int .i64 pm, pv, .int .i64 who]

/-- The machine at work in block r: all of its rows are its own, and not one of w0's; rows of pairs of different marks are different ones. -/
structure RunW (w0 w : World) (r : Nat) (φ : Nat → Nat) (a : Ad) (m : Mm) (pw pm : Int) (pv : Value) (who : Int) : Prop where
  base : Below w0.heap.size w0 w
  rge : w0.heap.size ≤ r
  run : Blk w r 60 (runCells a m pw pm pv who).toArray
  wrow : w.ownsRow w0.heap.size 3 1 (.slice (some ⟨a.gW, 0, none⟩) m.W.length a.cW) m.W.length (m.W.flatMap encI)
  lrow : RowL w w0.heap.size (.slice a.lA m.L.length a.lc) m.L
  trow : w.ownsRow w0.heap.size 46 11 (.slice (some ⟨a.gT, 0, none⟩) m.T.length a.cT) m.T.length (m.T.flatMap encTx)
  hrow : w.ownsRow w0.heap.size 50 10 (.slice a.hA m.H.length a.hc) m.H.length (m.H.flatMap encRx)
  ts : ∀ k t, m.T[k]? = some t → TxOk w w0.heap.size φ k t
  hs : ∀ x ∈ m.H, HxOk w w0.heap.size φ x

section
variable {w w' : World} {base : Nat}
theorem own_blk {e : TypeId} {k n g c : Nat} {xs : List Value} (h : w.ownsRow base e k (.slice (some ⟨g, 0, none⟩) n c) n xs) : base ≤ g ∧ g < w.heap.size ∧ n ≤ c ∧ c ≤ maxLen ∧ ∃ cur, Blk w g e cur := by
  rcases h.2 with ⟨he, _⟩ | ⟨g', c', cur, he, hg, hrow, hn, hm, hs, ht⟩
  · cases he
  · injection he with h1 _ h3
    injection h1 with h1
    injection h1 with h1 _
    subst h1 h3
    exact ⟨hg, (Array.getElem?_eq_some_iff.1 hrow).1, hn, hm, cur, hrow⟩
theorem own_some {e : TypeId} {k n c : Nat} {b : Addr} {xs : List Value} (h : w.ownsRow base e k (.slice (some b) n c) n xs) : b = ⟨b.block, 0, none⟩ := by
  rcases h.2 with ⟨he, _⟩ | ⟨g', c', cur, he, hg, hrow, hn, hm, hs, ht⟩
  · cases he
  · injection he with h1 _ h3
    injection h1 with h1
    subst h1
    rfl
/-- Rows abide a change of one block that is of another type. -/
theorem own_ty {e t : TypeId} {k n g : Nat} {v : Value} {xs : List Value} {cs : Array Value} (h : w.ownsRow base e k v n xs) (hg : w.grownBy w' (some g)) (hb : Blk w g t cs) (hne : e ≠ t) : w'.ownsRow base e k v n xs :=
  h.kept hg (.inr (own_ne h hb hne))
/-- .. or of no block at all. -/
theorem own_free {e : TypeId} {k n : Nat} {v : Value} {xs : List Value} (h : w.ownsRow base e k v n xs) (hg : w.grownBy w' none) : w'.ownsRow base e k v n xs := by
  refine h.kept hg ?_
  cases v.ownBlock <;> simp
theorem PRow.lt {A : Option Addr} {c : Nat} {l : List Pr} (h : PRow w base A c l) {b : Addr} (hb : A = some b) : b.block < w.heap.size ∧ base ≤ b.block := by
  subst hb
  have e := own_some h
  unfold PRow at h
  rw [e] at h
  exact ⟨(own_blk h).2.1, (own_blk h).1⟩
theorem PRow.keep {A : Option Addr} {c : Nat} {l : List Pr} (h : PRow w base A c l) (hb : Below w.heap.size w w') : PRow w' base A c l := own_below h hb
/-- A row of pairs abides a change of another block. -/
theorem PRow.kept {A : Option Addr} {c : Nat} {l : List Pr} (h : PRow w base A c l) {row : Option Nat} (hg : w.grownBy w' row) (hne : ∀ b, A = some b → some b.block ≠ row) : PRow w' base A c l := by
  refine World.ownsRow.kept h hg ?_
  cases A with
  | none => exact .inl rfl
  | some b => exact .inr (hne b rfl)
theorem TxOk.kept {φ : Nat → Nat} {k : Nat} {t : Tx} (h : TxOk w base φ k t) {row : Option Nat} (hg : w.grownBy w' row) (hne : ∀ g, row = some g → φ g ≠ 2 * k + 1 ∧ φ g ≠ 2 * k + 2) : TxOk w' base φ k t :=
  ⟨h.R.kept hg (fun b hb e => (hne _ e.symm).1 (h.gR b hb)), h.W.kept hg (fun b hb e => (hne _ e.symm).2 (h.gW b hb)), h.gR, h.gW⟩
theorem HxOk.kept {φ : Nat → Nat} {x : Rx} (h : HxOk w base φ x) {row : Option Nat} (hg : w.grownBy w' row) (hne : ∀ g, row = some g → φ g ≠ 0) : HxOk w' base φ x :=
  ⟨h.R.kept hg (fun b hb e => hne _ e.symm (h.gR b hb)), h.W.kept hg (fun b hb e => hne _ e.symm (h.gW b hb)), h.gR, h.gW⟩
theorem PRow.kept_ty {A : Option Addr} {c : Nat} {l : List Pr} (h : PRow w base A c l) {g : Nat} {t : TypeId} {cs : Array Value} (hg : w.grownBy w' (some g)) (hb : Blk w g t cs) (hne : 55 ≠ t) : PRow w' base A c l := own_ty h hg hb hne
theorem TxOk.kept_ty {φ : Nat → Nat} {k : Nat} {t : Tx} (h : TxOk w base φ k t) {g : Nat} {ty : TypeId} {cs : Array Value} (hg : w.grownBy w' (some g)) (hb : Blk w g ty cs) (hne : 55 ≠ ty) : TxOk w' base φ k t :=
  ⟨h.R.kept_ty hg hb hne, h.W.kept_ty hg hb hne, h.gR, h.gW⟩
theorem HxOk.kept_ty {φ : Nat → Nat} {x : Rx} (h : HxOk w base φ x) {g : Nat} {ty : TypeId} {cs : Array Value} (hg : w.grownBy w' (some g)) (hb : Blk w g ty cs) (hne : 55 ≠ ty) : HxOk w' base φ x :=
  ⟨h.R.kept_ty hg hb hne, h.W.kept_ty hg hb hne, h.gR, h.gW⟩
theorem grown_setCell (w : World) (p : Addr) (u : Value) : w.grownBy (w.setCell p u) (some p.block) :=
  ⟨rfl, rfl, rfl, by simp, fun i _ hi => Below.heap_setCell w p u i (fun e => hi (by rw [e]))⟩
theorem grown_trans {w2 : World} {row : Option Nat} (h : w.grownBy w' row) (h2 : w'.grownBy w2 row) : w.grownBy w2 row :=
  ⟨h2.os.trans h.os, h2.tape.trans h.tape, h2.output.trans h.output, Nat.le_trans h.size h2.size, fun k hk hne => (h2.block k (Nat.lt_of_lt_of_le hk h.size) hne).trans (h.block k hk hne)⟩
end

/-- Cells of a row of one's own turned, one after the other. -/
theorem setCells_own' {base g c k n : Nat} {e : TypeId} : ∀ (us : List Value) (o : Nat) (w : World) (xs : List Value), w.ownsRow base e k (.slice (some ⟨g, 0, none⟩) n c) n xs → (w.setCells g o us).ownsRow base e k (.slice (some ⟨g, 0, none⟩) n c) n ((us.zipIdx 0).foldl (fun l p => l.set (o + p.2) p.1) xs)
  | [], o, w, xs, h => h
  | u :: us, o, w, xs, h => by
    have h1 := setCells_own' us (o + 1) (w.setCell ⟨g, o, none⟩ u) (xs.set o u) (own_set h o u)
    rw [World.setCells]
    have : ∀ (us : List Value) (i : Nat) (ys : List Value), (us.zipIdx i).foldl (fun l p => l.set (o + 1 + p.2) p.1) ys = (us.zipIdx (i + 1)).foldl (fun l p => l.set (o + p.2) p.1) ys := by
      intro us
      induction us with
      | nil => intro i ys; rfl
      | cons v us ih =>
        intro i ys
        simp only [List.zipIdx_cons, List.foldl_cons]
        rw [ih (i + 1), show o + 1 + i = o + (i + 1) from by omega]
    rw [this] at h1
    simpa using h1

section
variable {w0 w w' : World} {r : Nat} {φ : Nat → Nat} {a : Ad} {m : Mm} {pw pm : Int} {pv : Value} {who : Int}

theorem RunW.keep (h : RunW w0 w r φ a m pw pm pv who) (hb : Below w.heap.size w w') : RunW w0 w' r φ a m pw pm pv who :=
  have hg : w.grownBy w' none := ⟨hb.os, hb.tape, hb.output, hb.size, fun i hi _ => hb.block i hi⟩
  { base := h.base.trans (hb.mono h.base.size)
    rge := h.rge
    run := h.run.keep hb
    wrow := own_below h.wrow hb
    lrow := h.lrow.keep hb
    trow := own_below h.trow hb
    hrow := own_below h.hrow hb
    ts := fun k t hk => (h.ts k t hk).kept hg (fun g e => by cases e)
    hs := fun x hx => (h.hs x hx).kept hg (fun g e => by cases e) }

/-- Marks may be given anew where nothing lies. -/
theorem RunW.retag (h : RunW w0 w r φ a m pw pm pv who) {φ' : Nat → Nat} (he : ∀ g, g < w.heap.size → φ' g = φ g) : RunW w0 w r φ' a m pw pm pv who :=
  { h with
    ts := fun k t hk => have ht := h.ts k t hk
      ⟨ht.R, ht.W, fun b hb => (he _ (ht.R.lt hb).1).trans (ht.gR b hb), fun b hb => (he _ (ht.W.lt hb).1).trans (ht.gW b hb)⟩
    hs := fun x hx => have ht := h.hs x hx
      ⟨ht.R, ht.W, fun b hb => (he _ (ht.R.lt hb).1).trans (ht.gR b hb), fun b hb => (he _ (ht.W.lt hb).1).trans (ht.gW b hb)⟩ }

/-- A cell of the run itself is turned; the rows stay. -/
theorem RunW.rcell (h : RunW w0 w r φ a m pw pm pv who) {m' : Mm} {who' : Int} {j : Nat} {u : Value} (he : (runCells a m pw pm pv who).set j u = runCells a m' pw pm pv who')
    (hW : m'.W = m.W) (hL : m'.L = m.L) (hT : m'.T = m.T) (hH : m'.H = m.H) : RunW w0 (w.setCell ⟨r, j, none⟩ u) r φ a m' pw pm pv who' := by
  have hg := grown_setCell w ⟨r, j, none⟩ u
  exact {
    base := h.base.setCell h.rge _
    rge := h.rge
    run := by
      have := h.run.set_ j u
      rwa [List.setIfInBounds_toArray, he] at this
    wrow := by rw [hW]; exact own_ty h.wrow hg h.run (by decide)
    lrow := by rw [hL]; exact own_ty h.lrow hg h.run (by decide)
    trow := by rw [hT]; exact own_ty h.trow hg h.run (by decide)
    hrow := by rw [hH]; exact own_ty h.hrow hg h.run (by decide)
    ts := fun k t hk => (h.ts k t (hT ▸ hk)).kept_ty hg h.run (by decide)
    hs := fun x hx => (h.hs x (hH ▸ hx)).kept_ty hg h.run (by decide) }

/-- The clock and the locks are others. -/
theorem RunW.setC (h : RunW w0 w r φ a m pw pm pv who) {now mx : Int} {L : List Lk} {A : Option Addr} {c : Nat} (hL : RowL w w0.heap.size (.slice A L.length c) L) :
    RunW w0 (((w.setCell ⟨r, 1, none⟩ (.int .i64 now)).setCell ⟨r, 2, none⟩ (.int .i64 mx)).setCell ⟨r, 3, none⟩ (.slice A L.length c)) r φ { a with lA := A, lc := c } { m with now := now, mx := mx, L := L } pw pm pv who := by
  have h1 := h.rcell (m' := { m with now := now }) (who' := who) (j := 1) (u := .int .i64 now) rfl rfl rfl rfl rfl
  have h2 := h1.rcell (m' := { m with now := now, mx := mx }) (who' := who) (j := 2) (u := .int .i64 mx) rfl rfl rfl rfl rfl
  have hL1 : RowL _ _ _ _ := own_ty hL (grown_setCell w ⟨r, 1, none⟩ (.int .i64 now)) h.run (by decide)
  have hL2 : RowL _ _ _ _ := own_ty hL1 (grown_setCell _ ⟨r, 2, none⟩ (.int .i64 mx)) h1.run (by decide)
  have hg := grown_setCell ((w.setCell ⟨r, 1, none⟩ (.int .i64 now)).setCell ⟨r, 2, none⟩ (.int .i64 mx)) ⟨r, 3, none⟩ (.slice A L.length c)
  exact {
    base := h2.base.setCell h2.rge _
    rge := h2.rge
    run := h2.run.set_ 3 _
    wrow := own_ty h2.wrow hg h2.run (by decide)
    lrow := own_ty hL2 hg h2.run (by decide)
    trow := own_ty h2.trow hg h2.run (by decide)
    hrow := own_ty h2.hrow hg h2.run (by decide)
    ts := fun k t hk => (h2.ts k t hk).kept_ty hg h2.run (by decide)
    hs := fun x hx => (h2.hs x hx).kept_ty hg h2.run (by decide) }

/-- A thread's cells, and that they may be turned. -/
theorem RunW.tlt (h : RunW w0 w r φ a m pw pm pv who) {k : Nat} {t : Tx} (hk : m.T[k]? = some t) : k < m.T.length := (List.getElem?_eq_some_iff.1 hk).1
theorem RunW.tcells (h : RunW w0 w r φ a m pw pm pv who) {k : Nat} {t : Tx} (hk : m.T[k]? = some t) {j : Nat} {u : Value} (hu : (encTx t)[j]? = some u) : w.cell? ⟨a.gT, k * 11 + j, none⟩ = some u := by
  obtain ⟨hk1, hk2⟩ := List.getElem?_eq_some_iff.1 hk
  subst hk2
  have := h.trow.cells (g := a.gT) rfl _ _ (flat_get encTx encTx_len m.T k hk1 j u hu)
  rwa [add_none, Nat.zero_add] at this
theorem RunW.tfree (h : RunW w0 w r φ a m pw pm pv who) (o : Nat) : w.frozen? ⟨a.gT, o, none⟩ = false := by
  obtain ⟨_, _, _, _, cur, hb⟩ := own_blk h.trow
  exact hb.free o
theorem RunW.rcells (h : RunW w0 w r φ a m pw pm pv who) (j : Nat) : w.cell? ⟨r, j, none⟩ = (runCells a m pw pm pv who)[j]? := by
  rw [h.run.cell, List.getElem?_toArray]
theorem RunW.apart (h : RunW w0 w r φ a m pw pm pv who) : a.gT ≠ r ∧ a.gW ≠ r ∧ a.gT ≠ a.gW ∧ a.gT < w.heap.size ∧ a.gW < w.heap.size ∧ r < w.heap.size := by
  obtain ⟨_, h1, _, _, ct, hT⟩ := own_blk h.trow
  obtain ⟨_, h2, _, _, cw, hW⟩ := own_blk h.wrow
  have hr := h.run
  refine ⟨?_, ?_, ?_, h1, h2, h.run.lt⟩
  · intro e
    rw [e] at hT
    unfold Blk at hT hr
    rw [hr] at hT
    injection hT with hT
    injection hT with _ hT
    exact absurd hT (by decide)
  · intro e
    rw [e] at hW
    unfold Blk at hW hr
    rw [hr] at hW
    injection hW with hW
    injection hW with _ hW
    exact absurd hW (by decide)
  · intro e
    rw [e] at hT
    unfold Blk at hT hW
    rw [hW] at hT
    injection hT with hT
    injection hT with _ hT
    exact absurd hT (by decide)

/-- Threads are turned: one of them, to whatever has rows of its own. -/
theorem RunW.tnew (h : RunW w0 w r φ a m pw pm pv who) {k : Nat} {t' : Tx} (hg : w.grownBy w' (some a.gT))
    (ht : w'.ownsRow w0.heap.size 46 11 (.slice (some ⟨a.gT, 0, none⟩) m.T.length a.cT) m.T.length ((m.T.set k t').flatMap encTx)) (hk : TxOk w w0.heap.size φ k t') : RunW w0 w' r φ a { m with T := m.T.set k t' } pw pm pv who := by
  obtain ⟨hb, hlt, _, _, ct, hT⟩ := own_blk h.trow
  exact {
    base := h.base.grown hg h.base.size (fun k e => by cases e; exact hb)
    rge := h.rge
    run := by
      have := h.run.grown hg (by rintro ⟨⟩; exact h.apart.1 rfl)
      have e : runCells a { m with T := m.T.set k t' } pw pm pv who = runCells a m pw pm pv who := by unfold runCells; simp
      rwa [e]
    wrow := own_ty h.wrow hg hT (by decide)
    lrow := own_ty h.lrow hg hT (by decide)
    trow := by rw [List.length_set]; exact ht
    hrow := own_ty h.hrow hg hT (by decide)
    ts := fun j t hj => by
      rw [List.getElem?_set] at hj
      split at hj
      · rename_i e
        subst e
        split at hj
        · obtain rfl := Option.some.inj hj
          exact hk.kept_ty hg hT (by decide)
        · cases hj
      · exact (h.ts j t hj).kept_ty hg hT (by decide)
    hs := fun x hx => (h.hs x hx).kept_ty hg hT (by decide) }
/-- One cell of a thread is turned, which is none of its two slices. -/
theorem RunW.tcell (h : RunW w0 w r φ a m pw pm pv who) {k : Nat} {t : Tx} (hk : m.T[k]? = some t) (t' : Tx) {j : Nat} {u : Value} (hj : j < 11) (he : encTx t' = (encTx t).set j u)
    (hr : t'.rA = t.rA ∧ t'.rc = t.rc ∧ t'.R = t.R ∧ t'.wA = t.wA ∧ t'.wc = t.wc ∧ t'.W = t.W) : RunW w0 (w.setCell ⟨a.gT, k * 11 + j, none⟩ u) r φ a { m with T := m.T.set k t' } pw pm pv who := by
  obtain ⟨hk1, hk2⟩ := List.getElem?_eq_some_iff.1 hk
  refine h.tnew (grown_setCell w ⟨a.gT, k * 11 + j, none⟩ u) ?_ ?_
  · rw [← flat_set1 encTx encTx_len m.T k hk1 j hj u t' (by rw [hk2]; exact he)]
    exact own_set h.trow _ _
  · have ht := h.ts k t hk
    obtain ⟨e1, e2, e3, e4, e5, e6⟩ := hr
    exact ⟨by rw [e1, e2, e3]; exact ht.R, by rw [e4, e5, e6]; exact ht.W, by rw [e1]; exact ht.gR, by rw [e4]; exact ht.gW⟩
theorem RunW.set_at (k : Nat) {m : Mm} {t : Tx} (hk : m.T[k]? = some t) (t' : Tx) : ({ m with T := m.T.set k t' } : Mm).T[k]? = some t' := by
  obtain ⟨hk1, _⟩ := List.getElem?_eq_some_iff.1 hk
  exact List.getElem?_set_self hk1
/-- A thread is overwritten, whole, by one that has read and written nothing. -/
theorem RunW.tall (h : RunW w0 w r φ a m pw pm pv who) {k : Nat} {t : Tx} (hk : m.T[k]? = some t) (t' : Tx) (hR : t'.rA = none ∧ t'.rc = 0 ∧ t'.R = [] ∧ t'.wA = none ∧ t'.wc = 0 ∧ t'.W = []) :
    RunW w0 (w.setCells a.gT (k * 11) (encTx t')) r φ a { m with T := m.T.set k t' } pw pm pv who := by
  obtain ⟨hk1, hk2⟩ := List.getElem?_eq_some_iff.1 hk
  have hg : ∀ (us : List Value) (o : Nat) (w w1 : World), w.grownBy w1 (some a.gT) → w.grownBy (w1.setCells a.gT o us) (some a.gT) := by
    intro us
    induction us with
    | nil => intro o w w1 h; exact h
    | cons u us ih => intro o w w1 h; rw [World.setCells]; exact ih _ _ _ (grown_trans h (grown_setCell w1 ⟨a.gT, o, none⟩ u))
  refine h.tnew (hg _ _ _ _ ⟨rfl, rfl, rfl, Nat.le_refl _, fun _ _ _ => rfl⟩) ?_ ?_
  · have := setCells_own' (encTx t') (k * 11) w _ h.trow
    rw [flat_set encTx encTx_len m.T k hk1 t'] at this
    exact this
  · obtain ⟨e1, e2, e3, e4, e5, e6⟩ := hR
    refine ⟨?_, ?_, ?_, ?_⟩
    · rw [e1, e2, e3]; exact World.ownsRow_nil _ _ _ _
    · rw [e4, e5, e6]; exact World.ownsRow_nil _ _ _ _
    · rw [e1]; intro b hb; cases hb
    · rw [e4]; intro b hb; cases hb

/-- A word is written. -/
theorem RunW.setW (h : RunW w0 w r φ a m pw pm pv who) (j : Nat) (v : Int) (hj : j < m.W.length) : RunW w0 (w.setCell ⟨a.gW, j, none⟩ (.int .i64 v)) r φ a { m with W := m.W.set j v } pw pm pv who := by
  obtain ⟨hb, hlt, _, _, cw, hW⟩ := own_blk h.wrow
  have hg := grown_setCell w ⟨a.gW, j, none⟩ (.int .i64 v)
  have hrw : runCells a { m with W := m.W.set j v } pw pm pv who = runCells a m pw pm pv who := by unfold runCells; simp
  exact {
    base := h.base.setCell hb _
    rge := h.rge
    run := by rw [hrw]; exact h.run.far (p := ⟨a.gW, j, none⟩) (fun e => h.apart.2.1 e.symm) _
    wrow := by
      have := own_set h.wrow j (.int .i64 v)
      rw [List.length_set]
      have e := flat_set1 encI encI_len m.W j hj 0 (by omega) (.int .i64 v) v rfl
      simp only [Nat.mul_one, Nat.add_zero] at e
      rw [← e]
      exact this
    lrow := own_ty h.lrow hg hW (by decide)
    trow := own_ty h.trow hg hW (by decide)
    hrow := own_ty h.hrow hg hW (by decide)
    ts := fun k t hk => (h.ts k t hk).kept_ty hg hW (by decide)
    hs := fun x hx => (h.hs x hx).kept_ty hg hW (by decide) }

/-- A try is told: a row of tries with one more, then the run's cell. -/
theorem RunW.addH (h : RunW w0 w r φ a m pw pm pv who) {x : Rx} (hx : HxOk w w0.heap.size φ x) {w1 : World} {A : Option Addr} {c : Nat} (hg : w.grownBy w1 (Value.slice a.hA m.H.length a.hc).ownBlock)
    (ho : w1.ownsRow w0.heap.size 50 10 (.slice A (m.H.length + 1) c) (m.H.length + 1) (m.H.flatMap encRx ++ encRx x)) :
    RunW w0 (w1.setCell ⟨r, 5, none⟩ (.slice A (m.H.length + 1) c)) r φ { a with hA := A, hc := c } { m with H := m.H ++ [x] } pw pm pv who := by
  have hrows : ∀ {e : TypeId} {k n : Nat} {v : Value} {xs : List Value}, e ≠ 50 → w.ownsRow w0.heap.size e k v n xs → w1.ownsRow w0.heap.size e k v n xs := by
    intro e k n v xs hne hr
    cases hA : a.hA with
    | none => rw [hA] at hg; exact own_free hr hg
    | some b =>
      have hh := h.hrow
      rw [hA] at hg hh
      have eb := own_some hh
      rw [eb] at hh
      obtain ⟨_, _, _, _, cur, hB⟩ := own_blk hh
      exact own_ty hr hg hB hne
  have hrun : Blk w1 r 60 (runCells a m pw pm pv who).toArray := by
    cases hA : a.hA with
    | none => rw [hA] at hg; exact h.run.grown hg (by simp [Value.ownBlock])
    | some b =>
      have hh := h.hrow
      rw [hA] at hg hh
      have eb := own_some hh
      rw [eb] at hh
      obtain ⟨_, _, _, _, cur, hB⟩ := own_blk hh
      refine h.run.grown hg ?_
      simp only [Value.ownBlock]
      intro e
      injection e with e
      have hr := h.run
      rw [← e] at hB
      unfold Blk at hr hB
      rw [hr] at hB
      injection hB with hB
      injection hB with _ hB
      exact absurd hB (by decide)
  have hb1 : Below w0.heap.size w0 w1 := by
    refine h.base.grown hg h.base.size ?_
    intro k hk
    exact (h.hrow.lt k hk).1
  have hgr := grown_setCell w1 ⟨r, 5, none⟩ (.slice A (m.H.length + 1) c)
  obtain ⟨u5, hu5⟩ : ∃ u5, u5 = Value.slice A (m.H.length + 1) c := ⟨_, rfl⟩
  have hP : ∀ {A : Option Addr} {c : Nat} {l : List Pr}, PRow w w0.heap.size A c l → PRow (w1.setCell ⟨r, 5, none⟩ u5) w0.heap.size A c l := by
    intro A c l hp
    exact own_ty (hrows (by decide) hp) (grown_setCell w1 ⟨r, 5, none⟩ _) hrun (by decide)
  exact {
    base := hb1.setCell h.rge _
    rge := h.rge
    run := by
      have h5 := hrun.set_ 5 (.slice A (m.H.length + 1) c)
      have e : (runCells a m pw pm pv who).toArray.setIfInBounds 5 (.slice A (m.H.length + 1) c) = (runCells { a with hA := A, hc := c } { m with H := m.H ++ [x] } pw pm pv who).toArray := by
        unfold runCells
        simp
      rwa [e] at h5
    wrow := own_ty (hrows (by decide) h.wrow) hgr hrun (by decide)
    lrow := own_ty (hrows (by decide) h.lrow) hgr hrun (by decide)
    trow := own_ty (hrows (by decide) h.trow) hgr hrun (by decide)
    hrow := by
      have h5 := own_ty ho hgr hrun (by decide)
      rw [List.length_append, List.flatMap_append]
      simpa using h5
    ts := fun k t hk => have ht := h.ts k t hk; ⟨hu5 ▸ hP ht.R, hu5 ▸ hP ht.W, ht.gR, ht.gW⟩
    hs := fun y hy => by
      rw [List.mem_append] at hy
      rcases hy with hy | hy
      · have ht := h.hs y hy; exact ⟨hu5 ▸ hP ht.R, hu5 ▸ hP ht.W, ht.gR, ht.gW⟩
      · simp at hy; subst hy; exact ⟨hu5 ▸ hP hx.R, hu5 ▸ hP hx.W, hx.gR, hx.gW⟩ }

/-- A thread's row of pairs is another one: in its place, or a new one. -/
theorem RunW.grownP (h : RunW w0 w r φ a m pw pm pv who) {k : Nat} {t : Tx} (hk : m.T[k]? = some t) {row : Option Nat} {tag : Nat} (htag : tag = 2 * k + 1 ∨ tag = 2 * k + 2) {w1 : World} (hg : w.grownBy w1 row)
    (hrow : ∀ g, row = some g → φ g = tag ∧ w0.heap.size ≤ g ∧ ∃ cur, Blk w g 55 cur) :
    Below w0.heap.size w0 w1 ∧ Blk w1 r 60 (runCells a m pw pm pv who).toArray ∧ (∀ {e : TypeId} {k n : Nat} {v : Value} {xs : List Value}, e ≠ 55 → w.ownsRow w0.heap.size e k v n xs → w1.ownsRow w0.heap.size e k v n xs) ∧
      (∀ j t, m.T[j]? = some t → j ≠ k → TxOk w1 w0.heap.size φ j t) ∧ (∀ x ∈ m.H, HxOk w1 w0.heap.size φ x) ∧ (∀ {A : Option Addr} {c : Nat} {l : List Pr} {tag' : Nat}, tag' ≠ tag → PRow w w0.heap.size A c l → Tg φ tag' A → PRow w1 w0.heap.size A c l) := by
  refine ⟨h.base.grown hg h.base.size (fun k hk => (hrow k hk).2.1), h.run.grown hg ?_, ?_, ?_, ?_, ?_⟩
  · intro e
    obtain ⟨_, _, cur, hB⟩ := hrow r e.symm
    have hr := h.run
    unfold Blk at hr hB
    rw [hr] at hB
    injection hB with hB
    injection hB with _ hB
    exact absurd hB (by decide)
  · intro e k n v xs hne hr
    cases row with
    | none => exact own_free hr hg
    | some g =>
      obtain ⟨_, _, cur, hB⟩ := hrow g rfl
      exact own_ty hr hg hB hne
  · intro j t hj hne
    refine (h.ts j t hj).kept hg (fun g e => ?_)
    have := (hrow g e).1
    omega
  · intro x hx
    refine (h.hs x hx).kept hg (fun g e => ?_)
    have := (hrow g e).1
    omega
  · intro A c l tag' hne hp ht
    refine hp.kept hg (fun b hb e => ?_)
    have h1 := ht b hb
    have h2 := (hrow _ e.symm).1
    omega

theorem prow_row {A : Option Addr} {c tag base : Nat} {l : List Pr} (h : PRow w base A c l) (ht : Tg φ tag A) : ∀ g, (Value.slice A l.length c).ownBlock = some g → φ g = tag ∧ base ≤ g ∧ ∃ cur, Blk w g 55 cur := by
  intro g hg
  cases A with
  | none => cases hg
  | some b =>
    simp only [Value.ownBlock] at hg
    injection hg with hg
    subst hg
    have e := own_some h
    unfold PRow at h
    rw [e] at h
    obtain ⟨h1, _, _, _, h5⟩ := own_blk h
    exact ⟨ht b rfl, h1, h5⟩

/-- What a thread read is one more, or what it writes: the row, then the thread's cell. -/
theorem RunW.newR (h : RunW w0 w r φ a m pw pm pv who) {k : Nat} {t : Tx} (hk : m.T[k]? = some t) {w1 : World} {A : Option Addr} {c : Nat} {R : List Pr} (hg : w.grownBy w1 (Value.slice t.rA t.R.length t.rc).ownBlock) (ho : PRow w1 w0.heap.size A c R)
    (hat : ∀ b, A = some b → t.rA = some b ∨ w.heap.size ≤ b.block) :
    RunW w0 (w1.setCell ⟨a.gT, k * 11 + 7, none⟩ (.slice A R.length c)) r (fun g => if g < w.heap.size then φ g else 2 * k + 1) a { m with T := m.T.set k { t with rA := A, rc := c, R := R } } pw pm pv who := by
  have htk := h.ts k t hk
  obtain ⟨hb1, hrun, hrows, hts, hhs, hpr⟩ := h.grownP hk (.inl rfl) hg (prow_row htk.R htk.gR)
  have hφ : ∀ {A : Option Addr} {c tag : Nat} {l : List Pr}, PRow w w0.heap.size A c l → Tg φ tag A → Tg (fun g => if g < w.heap.size then φ g else 2 * k + 1) tag A := fun hp ht b hb => by
    show (if b.block < w.heap.size then φ b.block else 2 * k + 1) = _
    rw [if_pos (hp.lt hb).1]
    exact ht b hb
  obtain ⟨hk1, hk2⟩ := List.getElem?_eq_some_iff.1 hk
  have ht1 := hrows (by decide) h.trow
  obtain ⟨_, hlt, _, _, ct, hT⟩ := own_blk ht1
  have hgT := grown_setCell w1 ⟨a.gT, k * 11 + 7, none⟩ (.slice A R.length c)
  exact {
    base := hb1.setCell (own_blk ht1).1 _
    rge := h.rge
    run := by
      have e : runCells a { m with T := m.T.set k { t with rA := A, rc := c, R := R } } pw pm pv who = runCells a m pw pm pv who := by unfold runCells; simp
      rw [e]
      exact hrun.far (p := ⟨a.gT, k * 11 + 7, none⟩) (fun e => h.apart.1 e.symm) _
    wrow := own_ty (hrows (by decide) h.wrow) hgT hT (by decide)
    lrow := own_ty (hrows (by decide) h.lrow) hgT hT (by decide)
    trow := by
      rw [List.length_set, ← flat_set1 encTx encTx_len m.T k hk1 7 (by omega) (.slice A R.length c) { t with rA := A, rc := c, R := R } (by rw [hk2]; rfl)]
      exact own_set ht1 _ _
    hrow := own_ty (hrows (by decide) h.hrow) hgT hT (by decide)
    ts := fun j t' hj => by
      rw [List.getElem?_set] at hj
      split at hj
      · rename_i e
        subst e
        obtain rfl := Option.some.inj hj
        refine ⟨PRow.kept_ty ho hgT hT (by decide), PRow.kept_ty (hpr (by omega) htk.W htk.gW) hgT hT (by decide), fun b hb => ?_, hφ htk.W htk.gW⟩
        show (if b.block < w.heap.size then φ b.block else 2 * k + 1) = _
        split
        · rename_i hlt2
          rcases hat b hb with h2 | h2
          · exact htk.gR b h2
          · omega
        · rfl
      · rename_i e
        have h5 := hts j t' hj (fun e2 => e e2.symm)
        have h6 := h.ts j t' hj
        exact ⟨h5.R.kept_ty hgT hT (by decide), h5.W.kept_ty hgT hT (by decide), hφ h6.R h6.gR, hφ h6.W h6.gW⟩
    hs := fun x hx => by
      have h5 := hhs x hx
      have h6 := h.hs x hx
      exact ⟨h5.R.kept_ty hgT hT (by decide), h5.W.kept_ty hgT hT (by decide), hφ h6.R h6.gR, hφ h6.W h6.gW⟩ }

theorem RunW.newW (h : RunW w0 w r φ a m pw pm pv who) {k : Nat} {t : Tx} (hk : m.T[k]? = some t) {w1 : World} {A : Option Addr} {c : Nat} {R : List Pr} (hg : w.grownBy w1 (Value.slice t.wA t.W.length t.wc).ownBlock) (ho : PRow w1 w0.heap.size A c R)
    (hat : ∀ b, A = some b → t.wA = some b ∨ w.heap.size ≤ b.block) :
    RunW w0 (w1.setCell ⟨a.gT, k * 11 + 8, none⟩ (.slice A R.length c)) r (fun g => if g < w.heap.size then φ g else 2 * k + 2) a { m with T := m.T.set k { t with wA := A, wc := c, W := R } } pw pm pv who := by
  have htk := h.ts k t hk
  obtain ⟨hb1, hrun, hrows, hts, hhs, hpr⟩ := h.grownP hk (.inr rfl) hg (prow_row htk.W htk.gW)
  have hφ : ∀ {A : Option Addr} {c tag : Nat} {l : List Pr}, PRow w w0.heap.size A c l → Tg φ tag A → Tg (fun g => if g < w.heap.size then φ g else 2 * k + 2) tag A := fun hp ht b hb => by
    show (if b.block < w.heap.size then φ b.block else 2 * k + 2) = _
    rw [if_pos (hp.lt hb).1]
    exact ht b hb
  obtain ⟨hk1, hk2⟩ := List.getElem?_eq_some_iff.1 hk
  have ht1 := hrows (by decide) h.trow
  obtain ⟨_, hlt, _, _, ct, hT⟩ := own_blk ht1
  have hgT := grown_setCell w1 ⟨a.gT, k * 11 + 8, none⟩ (.slice A R.length c)
  exact {
    base := hb1.setCell (own_blk ht1).1 _
    rge := h.rge
    run := by
      have e : runCells a { m with T := m.T.set k { t with wA := A, wc := c, W := R } } pw pm pv who = runCells a m pw pm pv who := by unfold runCells; simp
      rw [e]
      exact hrun.far (p := ⟨a.gT, k * 11 + 8, none⟩) (fun e => h.apart.1 e.symm) _
    wrow := own_ty (hrows (by decide) h.wrow) hgT hT (by decide)
    lrow := own_ty (hrows (by decide) h.lrow) hgT hT (by decide)
    trow := by
      rw [List.length_set, ← flat_set1 encTx encTx_len m.T k hk1 8 (by omega) (.slice A R.length c) { t with wA := A, wc := c, W := R } (by rw [hk2]; rfl)]
      exact own_set ht1 _ _
    hrow := own_ty (hrows (by decide) h.hrow) hgT hT (by decide)
    ts := fun j t' hj => by
      rw [List.getElem?_set] at hj
      split at hj
      · rename_i e
        subst e
        obtain rfl := Option.some.inj hj
        refine ⟨PRow.kept_ty (hpr (by omega) htk.R htk.gR) hgT hT (by decide), PRow.kept_ty ho hgT hT (by decide), hφ htk.R htk.gR, fun b hb => ?_⟩
        show (if b.block < w.heap.size then φ b.block else 2 * k + 2) = _
        split
        · rename_i hlt2
          rcases hat b hb with h2 | h2
          · exact htk.gW b h2
          · omega
        · rfl
      · rename_i e
        have h5 := hts j t' hj (fun e2 => e e2.symm)
        have h6 := h.ts j t' hj
        exact ⟨h5.R.kept_ty hgT hT (by decide), h5.W.kept_ty hgT hT (by decide), hφ h6.R h6.gR, hφ h6.W h6.gW⟩
    hs := fun x hx => by
      have h5 := hhs x hx
      have h6 := h.hs x hx
      exact ⟨h5.R.kept_ty hgT hT (by decide), h5.W.kept_ty hgT hT (by decide), hφ h6.R h6.gR, hφ h6.W h6.gW⟩ }
end
end Go.Proofs.Ytngimbfojccikaa
