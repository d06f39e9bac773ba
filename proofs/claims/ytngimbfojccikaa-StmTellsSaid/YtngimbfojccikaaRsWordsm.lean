/- The reference's machine at work: a state in a block of its own, all of whose rows are its own; no row of pairs is ever written. -/
import Derived.Test.YtngimbfojccikaaStRunm
import Derived.Test.YtngimbfojccikaaStmTellsO
namespace Go.Proofs.Ytngimbfojccikaa
set_option linter.unusedSimpArgs false
open Go Go.RowKit
set_option linter.unusedVariables false

structure RefW (w0 w : World) (r : Nat) (a : Ad) (m : Mm) : Prop where
  base : Below w0.heap.size w0 w
  rge : w0.heap.size ≤ r
  run : Blk w r 34 (memCells a m).toArray
  o : MemO w w0.heap.size a m

section
variable {w0 w w' : World} {r : Nat} {a : Ad} {m : Mm}
theorem blk_ne {w : World} {g : Nat} {t t' : TypeId} {cs cs' : Array Value} (h : Blk w g t cs) (h' : Blk w g t' cs') : t = t' := by
  unfold Blk at h h'
  rw [h] at h'
  injection h' with h'
  injection h' with _ h'
theorem MemO.ty {base g : Nat} {t : TypeId} {cs : Array Value} (h : MemO w base a m) (hg : w.grownBy w' (some g)) (hb : Blk w g t cs) (h1 : 3 ≠ t) (h2 : 43 ≠ t) (h3 : 46 ≠ t) (h4 : 50 ≠ t) (h5 : 55 ≠ t) : MemO w' base a m :=
  ⟨own_ty h.W hg hb h1, own_ty h.L hg hb h2, own_ty h.T hg hb h3, own_ty h.H hg hb h4, fun t ht => ⟨own_ty (h.ts t ht).1 hg hb h5, own_ty (h.ts t ht).2 hg hb h5⟩, fun x hx => ⟨own_ty (h.hs x hx).1 hg hb h5, own_ty (h.hs x hx).2 hg hb h5⟩⟩
theorem RefW.keep (h : RefW w0 w r a m) (hb : Below w.heap.size w w') : RefW w0 w' r a m := ⟨h.base.trans (hb.mono h.base.size), h.rge, h.run.keep hb, h.o.below hb⟩
theorem RefW.rcells (h : RefW w0 w r a m) (j : Nat) : w.cell? ⟨r, j, none⟩ = (memCells a m)[j]? := by rw [h.run.cell, List.getElem?_toArray]
theorem RefW.tcells (h : RefW w0 w r a m) {k : Nat} {t : Tx} (hk : m.T[k]? = some t) {j : Nat} {u : Value} (hu : (encTx t)[j]? = some u) : w.cell? ⟨a.gT, k * 11 + j, none⟩ = some u := by
  obtain ⟨hk1, hk2⟩ := List.getElem?_eq_some_iff.1 hk
  subst hk2
  have := h.o.T.cells (g := a.gT) rfl _ _ (flat_get encTx encTx_len m.T k hk1 j u hu)
  rwa [add_none, Nat.zero_add] at this
theorem RefW.tfree (h : RefW w0 w r a m) (o : Nat) : w.frozen? ⟨a.gT, o, none⟩ = false := by
  obtain ⟨_, _, _, _, cur, hb⟩ := own_blk h.o.T
  exact hb.free o
theorem RefW.wcell (h : RefW w0 w r a m) {j : Nat} {v : Int} (hv : m.W[j]? = some v) : w.cell? ⟨a.gW, j, none⟩ = some (.int .i64 v) := by
  obtain ⟨hk1, rfl⟩ := List.getElem?_eq_some_iff.1 hv
  have := h.o.W.cells (g := a.gW) rfl _ _ (flat_get encI encI_len m.W j hk1 0 _ rfl)
  rw [add_none, Nat.zero_add] at this
  simpa using this
theorem RefW.wfree (h : RefW w0 w r a m) (o : Nat) : w.frozen? ⟨a.gW, o, none⟩ = false := by
  obtain ⟨_, _, _, _, cur, hb⟩ := own_blk h.o.W
  exact hb.free o
theorem RefW.lk (h : RefW w0 w r a m) : LkO w w0.heap.size (.agg #[.int .i64 m.now, .int .i64 m.mx, .slice a.lA m.L.length a.lc]) m.now m.mx m.L := ⟨_, rfl, h.o.L⟩
theorem RefW.apart (h : RefW w0 w r a m) : a.gT ≠ r ∧ a.gW ≠ r ∧ a.gT ≠ a.gW ∧ a.gT < w.heap.size ∧ a.gW < w.heap.size ∧ r < w.heap.size ∧ w0.heap.size ≤ a.gT ∧ w0.heap.size ≤ a.gW := by
  obtain ⟨h3, h1, _, _, ct, hT⟩ := own_blk h.o.T
  obtain ⟨h4, h2, _, _, cw, hW⟩ := own_blk h.o.W
  refine ⟨?_, ?_, ?_, h1, h2, h.run.lt, h3, h4⟩
  · intro e; rw [e] at hT; exact absurd (blk_ne hT h.run) (by decide)
  · intro e; rw [e] at hW; exact absurd (blk_ne hW h.run) (by decide)
  · intro e; rw [e] at hT; exact absurd (blk_ne hT hW) (by decide)
/-- A cell of the state's block is turned. -/
theorem RefW.rcell (h : RefW w0 w r a m) {m' : Mm} {a' : Ad} {j : Nat} {u : Value} (he : (memCells a m).set j u = memCells a' m') (ho : MemO w w0.heap.size a' m') : RefW w0 (w.setCell ⟨r, j, none⟩ u) r a' m' :=
  ⟨h.base.setCell h.rge u, h.rge, by have := h.run.set_ j u; rw [List.setIfInBounds_toArray, he] at this; exact this, ho.box (grown_setCell w ⟨r, j, none⟩ u) h.run⟩
/-- .. its locks. -/
theorem RefW.setC (h : RefW w0 w r a m) {now mx : Int} {L : List Lk} {A : Option Addr} {c : Nat} (hL : RowL w w0.heap.size (.slice A L.length c) L) :
    RefW w0 (((w.setCell ⟨r, 1, none⟩ (.int .i64 now)).setCell ⟨r, 2, none⟩ (.int .i64 mx)).setCell ⟨r, 3, none⟩ (.slice A L.length c)) r { a with lA := A, lc := c } { m with now := now, mx := mx, L := L } := by
  have h1 := h.rcell (m' := { m with now := now }) (a' := a) (j := 1) (u := .int .i64 now) rfl ⟨h.o.W, h.o.L, h.o.T, h.o.H, h.o.ts, h.o.hs⟩
  have h2 := h1.rcell (m' := { m with now := now, mx := mx }) (a' := a) (j := 2) (u := .int .i64 mx) rfl ⟨h1.o.W, h1.o.L, h1.o.T, h1.o.H, h1.o.ts, h1.o.hs⟩
  have hL1 : RowL (w.setCell ⟨r, 1, none⟩ (.int .i64 now)) w0.heap.size (.slice A L.length c) L := own_ty hL (grown_setCell _ _ _) h.run (by decide)
  have hL2 : RowL ((w.setCell ⟨r, 1, none⟩ (.int .i64 now)).setCell ⟨r, 2, none⟩ (.int .i64 mx)) w0.heap.size (.slice A L.length c) L := own_ty hL1 (grown_setCell _ _ _) h1.run (by decide)
  exact h2.rcell (m' := { m with now := now, mx := mx, L := L }) (a' := { a with lA := A, lc := c }) (j := 3) (u := .slice A L.length c) rfl ⟨h2.o.W, hL2, h2.o.T, h2.o.H, h2.o.ts, h2.o.hs⟩
theorem RefW.tnew (h : RefW w0 w r a m) {k : Nat} {t' : Tx} (hg : w.grownBy w' (some a.gT))
    (ht : w'.ownsRow w0.heap.size 46 11 (.slice (some ⟨a.gT, 0, none⟩) m.T.length a.cT) m.T.length ((m.T.set k t').flatMap encTx)) (hk : PRow w w0.heap.size t'.rA t'.rc t'.R ∧ PRow w w0.heap.size t'.wA t'.wc t'.W) : RefW w0 w' r a { m with T := m.T.set k t' } := by
  obtain ⟨hb, hlt, _, _, ct, hT⟩ := own_blk h.o.T
  refine ⟨h.base.grown hg h.base.size (fun k e => by cases e; exact hb), h.rge, ?_, own_ty h.o.W hg hT (by decide), own_ty h.o.L hg hT (by decide), by rw [List.length_set]; exact ht, own_ty h.o.H hg hT (by decide), fun t htm => ?_, fun x hx => ⟨own_ty (h.o.hs x hx).1 hg hT (by decide), own_ty (h.o.hs x hx).2 hg hT (by decide)⟩⟩
  · have := h.run.grown hg (by rintro ⟨⟩; exact h.apart.1 rfl)
    have e : memCells a { m with T := m.T.set k t' } = memCells a m := by unfold memCells; simp
    rwa [e]
  · obtain ⟨j, hj, rfl⟩ := List.getElem_of_mem htm
    have hj2 := List.getElem?_eq_getElem hj
    rw [List.getElem?_set] at hj2
    split at hj2
    · split at hj2
      · have e := Option.some.inj hj2
        rw [← e]
        exact ⟨own_ty hk.1 hg hT (by decide), own_ty hk.2 hg hT (by decide)⟩
      · cases hj2
    · have hm := List.mem_of_getElem? hj2
      exact ⟨own_ty (h.o.ts _ hm).1 hg hT (by decide), own_ty (h.o.ts _ hm).2 hg hT (by decide)⟩
theorem RefW.ts (h : RefW w0 w r a m) {k : Nat} {t : Tx} (hk : m.T[k]? = some t) : PRow w w0.heap.size t.rA t.rc t.R ∧ PRow w w0.heap.size t.wA t.wc t.W := h.o.ts t (List.mem_of_getElem? hk)
/-- One cell of a thread is turned. -/
theorem RefW.tcell (h : RefW w0 w r a m) {k : Nat} {t : Tx} (hk : m.T[k]? = some t) (t' : Tx) {j : Nat} {u : Value} (hj : j < 11) (he : encTx t' = (encTx t).set j u)
    (hr : t'.rA = t.rA ∧ t'.rc = t.rc ∧ t'.R = t.R ∧ t'.wA = t.wA ∧ t'.wc = t.wc ∧ t'.W = t.W) : RefW w0 (w.setCell ⟨a.gT, k * 11 + j, none⟩ u) r a { m with T := m.T.set k t' } := by
  obtain ⟨hk1, hk2⟩ := List.getElem?_eq_some_iff.1 hk
  refine h.tnew (grown_setCell w ⟨a.gT, k * 11 + j, none⟩ u) ?_ ?_
  · rw [← flat_set1 encTx encTx_len m.T k hk1 j hj u t' (by rw [hk2]; exact he)]
    exact own_set h.o.T _ _
  · have ht := h.ts hk
    obtain ⟨e1, e2, e3, e4, e5, e6⟩ := hr
    exact ⟨by rw [e1, e2, e3]; exact ht.1, by rw [e4, e5, e6]; exact ht.2⟩
theorem grown_setCells (g : Nat) : ∀ (us : List Value) (o : Nat) (w w1 : World), w.grownBy w1 (some g) → w.grownBy (w1.setCells g o us) (some g) := by
  intro us
  induction us with
  | nil => intro o w w1 h; exact h
  | cons u us ih => intro o w w1 h; rw [World.setCells]; exact ih _ _ _ (grown_trans h (grown_setCell w1 ⟨g, o, none⟩ u))
/-- A thread is overwritten, whole. -/
theorem RefW.tall (h : RefW w0 w r a m) {k : Nat} {t : Tx} (hk : m.T[k]? = some t) (t' : Tx) (hp : PRow w w0.heap.size t'.rA t'.rc t'.R ∧ PRow w w0.heap.size t'.wA t'.wc t'.W) :
    RefW w0 (w.setCells a.gT (k * 11) (encTx t')) r a { m with T := m.T.set k t' } := by
  obtain ⟨hk1, hk2⟩ := List.getElem?_eq_some_iff.1 hk
  refine h.tnew (grown_setCells _ _ _ _ _ ⟨rfl, rfl, rfl, Nat.le_refl _, fun _ _ _ => rfl⟩) ?_ hp
  have := setCells_own' (encTx t') (k * 11) w _ h.o.T
  rw [flat_set encTx encTx_len m.T k hk1 t'] at this
  exact this
theorem RefW.set_at {k : Nat} {m : Mm} {t : Tx} (hk : m.T[k]? = some t) (t' : Tx) : ({ m with T := m.T.set k t' } : Mm).T[k]? = some t' := by
  obtain ⟨hk1, _⟩ := List.getElem?_eq_some_iff.1 hk
  exact List.getElem?_set_self hk1
/-- A word is written. -/
theorem RefW.setW (h : RefW w0 w r a m) (j : Nat) (v : Int) (hj : j < m.W.length) : RefW w0 (w.setCell ⟨a.gW, j, none⟩ (.int .i64 v)) r a { m with W := m.W.set j v } := by
  obtain ⟨hb, hlt, _, _, cw, hW⟩ := own_blk h.o.W
  have hg := grown_setCell w ⟨a.gW, j, none⟩ (.int .i64 v)
  have hrw : memCells a { m with W := m.W.set j v } = memCells a m := by unfold memCells; simp
  refine ⟨h.base.setCell hb _, h.rge, by rw [hrw]; exact h.run.far (p := ⟨a.gW, j, none⟩) (fun e => h.apart.2.1 e.symm) _, ?_, own_ty h.o.L hg hW (by decide), own_ty h.o.T hg hW (by decide), own_ty h.o.H hg hW (by decide), fun t ht => ⟨own_ty (h.o.ts t ht).1 hg hW (by decide), own_ty (h.o.ts t ht).2 hg hW (by decide)⟩, fun x hx => ⟨own_ty (h.o.hs x hx).1 hg hW (by decide), own_ty (h.o.hs x hx).2 hg hW (by decide)⟩⟩
  have := own_set h.o.W j (.int .i64 v)
  rw [List.length_set]
  have e := flat_set1 encI encI_len m.W j hj 0 (by omega) (.int .i64 v) v rfl
  simp only [Nat.mul_one, Nat.add_zero] at e
  rw [← e]
  exact this
/-- A try is told: the row of tries has one more, then the state's cell. -/
theorem RefW.addH (h : RefW w0 w r a m) {x : Rx} (hx : PRow w w0.heap.size x.rA x.rc x.R ∧ PRow w w0.heap.size x.wA x.wc x.W) {w1 : World} {A : Option Addr} {c : Nat} (hg : w.grownBy w1 (Value.slice a.hA m.H.length a.hc).ownBlock)
    (ho : w1.ownsRow w0.heap.size 50 10 (.slice A (m.H.length + 1) c) (m.H.length + 1) (m.H.flatMap encRx ++ encRx x)) :
    RefW w0 (w1.setCell ⟨r, 5, none⟩ (.slice A (m.H.length + 1) c)) r { a with hA := A, hc := c } { m with H := m.H ++ [x] } := by
  have hrows : ∀ {e : TypeId} {k n : Nat} {v : Value} {xs : List Value}, e ≠ 50 → w.ownsRow w0.heap.size e k v n xs → w1.ownsRow w0.heap.size e k v n xs := by
    intro e k n v xs hne hr
    cases hA : a.hA with
    | none => rw [hA] at hg; exact own_free hr hg
    | some b =>
      have hh := h.o.H
      rw [hA] at hg hh
      have eb := own_some hh
      rw [eb] at hh
      obtain ⟨_, _, _, _, cur, hB⟩ := own_blk hh
      exact own_ty hr hg hB hne
  have hrun : Blk w1 r 34 (memCells a m).toArray := by
    cases hA : a.hA with
    | none => rw [hA] at hg; exact h.run.grown hg (by simp [Value.ownBlock])
    | some b =>
      have hh := h.o.H
      rw [hA] at hg hh
      have eb := own_some hh
      rw [eb] at hh
      obtain ⟨_, _, _, _, cur, hB⟩ := own_blk hh
      refine h.run.grown hg ?_
      simp only [Value.ownBlock]
      intro e
      injection e with e
      have hr := h.run
      rw [e] at hr
      exact absurd (blk_ne hr hB) (by decide)
  have hb1 : Below w0.heap.size w0 w1 := by
    refine h.base.grown hg h.base.size ?_
    intro k hk
    exact (h.o.H.lt k hk).1
  have hgr := grown_setCell w1 ⟨r, 5, none⟩ (.slice A (m.H.length + 1) c)
  obtain ⟨u5, hu5⟩ : ∃ u5, u5 = Value.slice A (m.H.length + 1) c := ⟨_, rfl⟩
  have hP : ∀ {A : Option Addr} {c : Nat} {l : List Pr}, PRow w w0.heap.size A c l → PRow (w1.setCell ⟨r, 5, none⟩ u5) w0.heap.size A c l := by
    intro A c l hp
    exact own_ty (hrows (by decide) hp) (grown_setCell w1 ⟨r, 5, none⟩ _) hrun (by decide)
  refine ⟨hb1.setCell h.rge _, h.rge, ?_, own_ty (hrows (by decide) h.o.W) hgr hrun (by decide), own_ty (hrows (by decide) h.o.L) hgr hrun (by decide), own_ty (hrows (by decide) h.o.T) hgr hrun (by decide), ?_, fun t ht => ⟨hu5 ▸ hP (h.o.ts t ht).1, hu5 ▸ hP (h.o.ts t ht).2⟩, fun y hy => ?_⟩
  · have h5 := hrun.set_ 5 (.slice A (m.H.length + 1) c)
    have e : (memCells a m).toArray.setIfInBounds 5 (.slice A (m.H.length + 1) c) = (memCells { a with hA := A, hc := c } { m with H := m.H ++ [x] }).toArray := by
      unfold memCells
      simp
    rwa [e] at h5
  · have h5 := own_ty ho hgr hrun (by decide)
    rw [List.length_append, List.flatMap_append]
    simpa using h5
  · rw [List.mem_append] at hy
    rcases hy with hy | hy
    · exact ⟨hu5 ▸ hP (h.o.hs y hy).1, hu5 ▸ hP (h.o.hs y hy).2⟩
    · simp at hy; subst hy; exact ⟨hu5 ▸ hP hx.1, hu5 ▸ hP hx.2⟩
end
end Go.Proofs.Ytngimbfojccikaa
