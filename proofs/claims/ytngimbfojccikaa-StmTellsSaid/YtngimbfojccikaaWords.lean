/- Words for memory that the texts of this seat share: a row of cells in a block, a slice value that reads as a list of cells, and how both are kept. Nothing of a program is named here. -/
import Derived.WalkKit
import Derived.Deep.AppendLies
import Derived.Deep.Draws
import Derived.Lib.Hide
import Derived.WalkSpells
import Derived.WalkLawsBesides
import Derived.Shelf.Abstract
import Derived.Deep.LoopGhost
import Derived.Laws.Cells
import Derived.Lib.SliceRun
import Derived.BigQuiet
import Derived.Deep.RegionHeld
import Derived.Deep.QuietTactic
namespace Go.Proofs.Ytngimbfojccikaa
set_option linter.unusedSimpArgs false
open Go Go.RowKit

/-- From offset o on, block b holds the cells vs. -/
def Cells (w : World) (b o : Nat) (vs : List Value) : Prop := b < w.heap.size ∧ ∀ j u, vs[j]? = some u → w.cell? ⟨b, o + j, none⟩ = some u

/-- The slice value v, of n elements of k cells each, reads as vs. -/
def Sl (w : World) (k : Nat) (v : Value) (n : Nat) (vs : List Value) : Prop :=
  vs.length = n * k ∧ ((v = .slice none 0 0 ∧ n = 0) ∨
    ∃ a c, v = .slice (some a) n c ∧ n ≤ c ∧ c ≤ maxLen ∧ (0 < n → a.spot = none ∧ Cells w a.block a.off vs))

section
variable {w w' : World} {b o k n : Nat} {v : Value} {vs : List Value}

theorem Cells.below (h : Cells w b o vs) {B : Nat} (hb : Below B w w') (hB : b < B) : Cells w' b o vs :=
  ⟨Nat.lt_of_lt_of_le h.1 hb.size, fun j u hu => (hb.cell (p := ⟨b, o + j, none⟩) hB).trans (h.2 j u hu)⟩

theorem Cells.same (h : Cells w b o vs) (hb : Below w.heap.size w w') : Cells w' b o vs := h.below hb h.1

theorem Cells.at_ (h : Cells w b o vs) {j : Nat} {u : Value} (hu : vs[j]? = some u) : w.cell? ⟨b, o + j, none⟩ = some u := h.2 j u hu

theorem Cells.drop (h : Cells w b o vs) (i : Nat) : Cells w b (o + i) (vs.drop i) :=
  ⟨h.1, fun j u hu => by rw [List.getElem?_drop] at hu; rw [Nat.add_assoc]; exact h.2 _ u hu⟩

theorem Cells.take (h : Cells w b o vs) (i : Nat) : Cells w b o (vs.take i) :=
  ⟨h.1, fun j u hu => h.2 j u (by rw [List.getElem?_take] at hu; split at hu; exact hu; cases hu)⟩

theorem Sl.below (h : Sl w k v n vs) (hb : Below w.heap.size w w') : Sl w' k v n vs := by
  obtain ⟨hl, h | ⟨a, c, hv, hc, hm, hr⟩⟩ := h
  · exact ⟨hl, .inl h⟩
  · exact ⟨hl, .inr ⟨a, c, hv, hc, hm, fun hn => ⟨(hr hn).1, (hr hn).2.same hb⟩⟩⟩

/-- How such a value looks. -/
theorem Sl.form (h : Sl w k v n vs) : ∃ A c, v = .slice A n c ∧ n ≤ c ∧ c ≤ maxLen := by
  obtain ⟨hl, ⟨rfl, rfl⟩ | ⟨a, c, rfl, hc, hm, hr⟩⟩ := h
  · exact ⟨none, 0, rfl, Nat.le_refl _, by unfold maxLen; omega⟩
  · exact ⟨some a, c, rfl, hc, hm⟩

theorem Sl.nil (w : World) (k : Nat) : Sl w k (.slice none 0 0) 0 [] := ⟨by simp, .inl ⟨rfl, rfl⟩⟩

theorem Sl.of_own {base : Nat} {e : TypeId} (h : w.ownsRow base e k v n vs) : Sl w k v n vs := by
  refine ⟨h.1, ?_⟩
  rcases h.2 with ⟨rfl, rfl⟩ | ⟨g, cap, cur, rfl, _, hg, hn, hm, _⟩
  · exact .inl ⟨rfl, rfl⟩
  · refine .inr ⟨_, cap, rfl, hn, hm, fun _ => ⟨rfl, (Array.getElem?_eq_some_iff.1 hg).1, fun j u hu => ?_⟩⟩
    have := h.cells (g := g) rfl j u hu
    have hadd : (⟨g, 0, none⟩ : Addr).add j = ⟨g, 0 + j, none⟩ := by unfold Addr.add; split <;> simp_all
    rwa [hadd] at this
end

/-- An equation kept out of the walk's sight. -/
theorem unhid {p : Prop} (h : Hid p) : p := h

theorem add_none (b o j : Nat) : (⟨b, o, none⟩ : Addr).add j = ⟨b, o + j, none⟩ := by
  unfold Addr.add; split
  · simp_all
  · rfl

theorem below_drewN {B : Nat} {a w : World} (h : Below B a w) (n : Nat) : Below B a (w.drewN n) := ⟨h.os, h.tape, h.output, h.size, h.block⟩

/-- What lay there reads as it did: two rules for the walk. -/
theorem bcell {W w1 : World} (hb : Below W.heap.size W w1) : (∀ b o, b < W.heap.size → w1.cell? ⟨b, o, none⟩ = W.cell? ⟨b, o, none⟩) ∧ (∀ b o, b < W.heap.size → w1.frozen? ⟨b, o, none⟩ = W.frozen? ⟨b, o, none⟩) :=
  ⟨fun b o h => hb.cell (p := ⟨b, o, none⟩) h, fun b o h => hb.frozen (p := ⟨b, o, none⟩) h⟩

/-- Block g is just the cells cs, of element type t, none frozen. -/
def Blk (w : World) (g : Nat) (t : TypeId) (cs : Array Value) : Prop := w.heap[g]? = some (.cells cs t (0, 0))

section
variable {w w' : World} {g : Nat} {t : TypeId} {cs : Array Value}
theorem Blk.lt (h : Blk w g t cs) : g < w.heap.size := (Array.getElem?_eq_some_iff.1 h).1
theorem Blk.cell (h : Blk w g t cs) (i : Nat) : w.cell? ⟨g, i, none⟩ = cs[i]? := cell_of_row w g i cs t (0, 0) h
theorem Blk.free (h : Blk w g t cs) (i : Nat) : w.frozen? ⟨g, i, none⟩ = false := by
  unfold Blk at h
  simp [World.frozen?, h]
theorem Blk.new (w : World) (t : TypeId) (cs : Array Value) : Blk (w.alloc (.cells cs t)) w.heap.size t cs := heap_alloc_new w _
theorem Blk.new_ (w : World) (t : TypeId) (cs : Array Value) (g : Nat) (h : w.heap.size = g) : Blk (w.alloc (.cells cs t)) g t cs := h ▸ heap_alloc_new w _
theorem Blk.alloc (h : Blk w g t cs) (o : Obj) : Blk (w.alloc o) g t cs := (Below.heap_alloc w o g h.lt).trans h
theorem Blk.set_ (h : Blk w g t cs) (i : Nat) (u : Value) : Blk (w.setCell ⟨g, i, none⟩ u) g t (cs.setIfInBounds i u) := by
  unfold Blk at h ⊢
  simp [World.setCell, Array.getElem?_modify, h]
theorem Blk.far (h : Blk w g t cs) {p : Addr} (hp : g ≠ p.block) (u : Value) : Blk (w.setCell p u) g t cs := (Below.heap_setCell w p u g hp).trans h
theorem Blk.drew (h : Blk w g t cs) : Blk w.drew g t cs := h
theorem Blk.below {B : Nat} (h : Blk w g t cs) (hb : Below B w w') (hg : g < B) : Blk w' g t cs := (hb.block g hg).trans h
theorem Blk.keep (h : Blk w g t cs) (hb : Below w.heap.size w w') : Blk w' g t cs := h.below hb h.lt
theorem Blk.grown {row : Option Nat} (h : Blk w g t cs) (hb : w.grownBy w' row) (hg : some g ≠ row) : Blk w' g t cs := (hb.block g h.lt hg).trans h
theorem ownsRow_mono {base base' : Nat} {e : TypeId} {size n : Nat} {v : Value} {xs : List Value} (h : w.ownsRow base e size v n xs) (hb : base' ≤ base) : w.ownsRow base' e size v n xs := by
  refine ⟨h.1, ?_⟩
  rcases h.2 with h2 | ⟨g, cap, cur, hv, hg, r⟩
  · exact .inl h2
  · exact .inr ⟨g, cap, cur, hv, Nat.le_trans hb hg, r⟩
theorem own_below {base : Nat} {e : TypeId} {k n : Nat} {v : Value} {xs : List Value} (h : w.ownsRow base e k v n xs) (hb : Below w.heap.size w w') : w'.ownsRow base e k v n xs :=
  h.kept (row := none) ⟨hb.os, hb.tape, hb.output, hb.size, fun i hi _ => hb.block i hi⟩ (by cases v.ownBlock <;> simp)
theorem own_drew {base : Nat} {e : TypeId} {k n : Nat} {v : Value} {xs : List Value} (h : w.ownsRow base e k v n xs) : w.drew.ownsRow base e k v n xs := h
theorem own_drewN {base : Nat} {e : TypeId} {k n : Nat} {v : Value} {xs : List Value} (h : w.ownsRow base e k v n xs) (q : Nat) : (w.drewN q).ownsRow base e k v n xs := h
theorem Blk.drewN (h : Blk w g t cs) (q : Nat) : Blk (w.drewN q) g t cs := h
theorem own_far {base : Nat} {e : TypeId} {k n : Nat} {v : Value} {xs : List Value} (h : w.ownsRow base e k v n xs) {p : Addr} (hp : v.ownBlock ≠ some p.block) (u : Value) : (w.setCell p u).ownsRow base e k v n xs :=
  h.kept (row := some p.block) ⟨rfl, rfl, rfl, by simp [World.setCell], fun i _ hi => Below.heap_setCell w p u i (fun e => hi (by rw [e]))⟩ (.inr hp)
/-- An owned row that is not empty: its block, known whole. -/
theorem own_form {base : Nat} {e : TypeId} {k n : Nat} {v : Value} {xs : List Value} (h : w.ownsRow base e k v n xs) (hn : 0 < n) :
    ∃ g cap cur, v = .slice (some ⟨g, 0, none⟩) n cap ∧ base ≤ g ∧ Blk w g e cur ∧ n ≤ cap ∧ cap ≤ maxLen ∧ cur.size = cap * k ∧ cur.toList.take (n * k) = xs := by
  rcases h.2 with ⟨rfl, h0⟩ | ⟨g, cap, cur, hv, hg, hh, r⟩
  · omega
  · exact ⟨g, cap, cur, hv, hg, hh, r⟩
theorem own_of {base : Nat} {e : TypeId} {k n g cap : Nat} {cur : Array Value} {xs : List Value} (hx : xs.length = n * k) (hg : base ≤ g) (hb : Blk w g e cur) (hn : n ≤ cap) (hm : cap ≤ maxLen) (hs : cur.size = cap * k) (ht : cur.toList.take (n * k) = xs) :
    w.ownsRow base e k (.slice (some ⟨g, 0, none⟩) n cap) n xs := ⟨hx, .inr ⟨g, cap, cur, rfl, hg, hb, hn, hm, hs, ht⟩⟩
/-- A store of one cell into a block that is known whole keeps what its first cells are, but for that one. -/
theorem take_set (cur : Array Value) (m j : Nat) (u : Value) : (cur.setIfInBounds j u).toList.take m = (cur.toList.take m).set j u := by
  rw [Array.toList_setIfInBounds, List.take_set]
theorem own_ne {base : Nat} {e : TypeId} {size n : Nat} {v : Value} {xs : List Value} (h : w.ownsRow base e size v n xs) (hg : Blk w g t cs) (hne : e ≠ t) : v.ownBlock ≠ some g := by
  rcases h.2 with ⟨rfl, _⟩ | ⟨g', cap, cur, rfl, _, hh, _⟩
  · simp [Value.ownBlock]
  · intro he
    have : g' = g := by simpa [Value.ownBlock] using he
    subst this
    unfold Blk at hg
    rw [hh] at hg
    injection hg with hg
    injection hg with _ ht
    exact hne ht
end

/-- The place of the first element at which p holds, or -1. -/
def idxF {α : Type} (p : α → Bool) (xs : List α) : Int := if xs.findIdx p < xs.length then (xs.findIdx p : Int) else -1

theorem idxF_hit {α : Type} (p : α → Bool) (xs : List α) (k : Nat) (hk : k < xs.length) (hp : p xs[k] = true) (ha : ∀ j (h : j < k), p (xs[j]'(Nat.lt_trans h hk)) = false) : idxF p xs = (k : Int) := by
  have : xs.findIdx p = k := by
    rw [List.findIdx_eq hk]
    exact ⟨hp, fun j hj => ha j hj⟩
  unfold idxF
  rw [this, if_pos hk]

theorem idxF_miss {α : Type} (p : α → Bool) (xs : List α) (ha : ∀ j (h : j < xs.length), p xs[j] = false) : idxF p xs = -1 := by
  have : xs.findIdx p = xs.length := by
    rw [List.findIdx_eq_length]
    intro x hx
    obtain ⟨j, hj, rfl⟩ := List.getElem_of_mem hx
    exact ha j hj
  unfold idxF
  rw [this, if_neg (by omega)]

theorem flat_get {α : Type} {k : Nat} (enc : α → List Value) (hk : ∀ x, (enc x).length = k) (xs : List α) (j : Nat) (hj : j < xs.length) (i : Nat) (u : Value) (hu : (enc xs[j])[i]? = some u) :
    (xs.flatMap enc)[j * k + i]? = some u := by
  induction xs generalizing j with
  | nil => simp at hj
  | cons x xs ih =>
    rw [List.flatMap_cons]
    have hi : i < k := by have := (List.getElem?_eq_some_iff.1 hu).1; rw [hk] at this; exact this
    match j with
    | 0 =>
      rw [List.getElem?_append_left (by rw [hk]; omega)]
      simpa using hu
    | j + 1 =>
      rw [List.getElem?_append_right (by rw [hk, Nat.succ_mul]; omega)]
      rw [show (j + 1) * k + i - (enc x).length = j * k + i from by rw [hk, Nat.succ_mul]; omega]
      exact ih j (by simpa using hj) (by simpa using hu)

theorem flat_len {α : Type} {k : Nat} (enc : α → List Value) (hk : ∀ x, (enc x).length = k) (xs : List α) : (xs.flatMap enc).length = xs.length * k := by
  induction xs with
  | nil => simp
  | cons x xs ih => rw [List.flatMap_cons, List.length_append, hk, ih, List.length_cons, Nat.succ_mul]; omega

theorem flat_set_app {k : Nat} (xs ys : List Value) (hx : xs.length = k) (j : Nat) : ∀ (us : List Value) (i : Nat), (us.zipIdx i).foldl (fun l p => l.set (k + j + p.2) p.1) (xs ++ ys) = xs ++ (us.zipIdx i).foldl (fun l p => l.set (j + p.2) p.1) ys := by
  intro us
  induction us generalizing ys with
  | nil => intro i; rfl
  | cons u us ih =>
    intro i
    simp only [List.zipIdx_cons, List.foldl_cons]
    rw [List.set_append_right _ _ (by omega), show k + j + i - xs.length = j + i from by omega]
    exact ih _ (i + 1)

/-- The cells of one element turned, one after the other. -/
theorem flat_set {α : Type} {k : Nat} (enc : α → List Value) (hk : ∀ x, (enc x).length = k) (xs : List α) (j : Nat) (hj : j < xs.length) (x : α) :
    ((enc x).zipIdx 0).foldl (fun l p => l.set (j * k + p.2) p.1) (xs.flatMap enc) = (xs.set j x).flatMap enc := by
  induction xs generalizing j with
  | nil => simp at hj
  | cons y xs ih =>
    match j with
    | 0 =>
      have hcore : ∀ (us pre old : List Value) (rest : List Value), us.length = old.length → (us.zipIdx pre.length).foldl (fun l p => l.set (0 * k + p.2) p.1) (pre ++ old ++ rest) = pre ++ us ++ rest := by
        intro us
        induction us with
        | nil => intro pre old rest h; obtain rfl := List.eq_nil_of_length_eq_zero h.symm; simp
        | cons u us ih2 =>
          intro pre old rest h
          match old, h with
          | o :: old, h =>
            simp only [List.zipIdx_cons, List.foldl_cons]
            have h1 : (pre ++ o :: old ++ rest).set (0 * k + pre.length) u = (pre ++ [u]) ++ old ++ rest := by
              rw [Nat.zero_mul, Nat.zero_add, List.append_assoc, List.set_append_right _ _ (Nat.le_refl _)]
              simp
            have h2 := ih2 (pre ++ [u]) old rest (by simpa using h)
            simp only [List.length_append, List.length_cons, List.length_nil, Nat.zero_add] at h2
            rw [h1, h2]
            simp
      have := hcore (enc x) [] (enc y) (xs.flatMap enc) (by rw [hk, hk])
      simpa using this
    | j + 1 =>
      rw [List.flatMap_cons, List.set_cons_succ, List.flatMap_cons, ← ih j (by simpa using hj)]
      have := flat_set_app (k := k) (enc y) (xs.flatMap enc) (hk y) (j * k) (enc x) 0
      simp only [Nat.succ_mul]
      rw [show j * k + k = k + j * k from by omega]
      exact this

/-- A load of the cells of 'cs' from an address that holds them. -/
theorem run_load_cells (P : Program) (W : World) (b o : Nat) (cs : List Value) (k : Nat) (hk : cs.length = k) (h : ∀ j v, cs[j]? = some v → W.cell? ⟨b, o + j, none⟩ = some v) :
    Sem.run P (loadCellsFrom ⟨b, o, none⟩ 0 k #[]) W = .ok cs.toArray W := by
  have := run_loadCells_list (P := P) (w := W) ⟨b, o, none⟩ cs (fun j v hj => by rw [add_none]; exact h j v hj)
  rw [hk] at this
  simpa [loadCells] using this

/-- What is asked of a predicate that is handed on: called at whatever element, in whatever later world, it hands back p of it, and leaves what was there. -/
def PredB (P : Program) {α : Type} (g : Nat) (lb : Array Value) (enc : α → Value) (p : α → Bool) (w : World) : Prop :=
  ∀ (W : World) (x : α), Below w.heap.size w W → Calls P g (#[enc x] ++ lb) W fun e w' => e = .returned (.bool (p x)) ∧ Below W.heap.size W w'

/-- An element of a row of one's own, cell by cell. -/
theorem own_elem {α : Type} {k : Nat} (enc : α → List Value) (hk : ∀ x, (enc x).length = k) {w : World} {base : Nat} {e : TypeId} {v : Value} {xs : List α} (h : w.ownsRow base e k v xs.length (xs.flatMap enc)) (j : Nat) (hj : j < xs.length) :
    ∃ g c, v = .slice (some ⟨g, 0, none⟩) xs.length c ∧ base ≤ g ∧ g < w.heap.size ∧ xs.length ≤ c ∧ c ≤ maxLen ∧ (∀ i u, (enc xs[j])[i]? = some u → w.cell? ⟨g, j * k + i, none⟩ = some u) ∧ ∀ o, w.frozen? ⟨g, o, none⟩ = false := by
  obtain ⟨g, c, cur, rfl, hg, hrow, hc1, hc2, _, _⟩ := own_form h (by omega)
  refine ⟨g, c, rfl, hg, hrow.lt, hc1, hc2, fun i u hu => ?_, fun o => hrow.free o⟩
  have := h.cells (g := g) rfl _ _ (flat_get enc hk xs j hj i u hu)
  rwa [add_none, Nat.zero_add] at this

/-- One cell of one element turned. -/
theorem flat_set1 {α : Type} {k : Nat} (enc : α → List Value) (hk : ∀ x, (enc x).length = k) (xs : List α) (j : Nat) (hj : j < xs.length) (i : Nat) (hi : i < k) (u : Value) (y : α) (hy : enc y = (enc xs[j]).set i u) :
    (xs.flatMap enc).set (j * k + i) u = (xs.set j y).flatMap enc := by
  induction xs generalizing j with
  | nil => simp at hj
  | cons x xs ih =>
    match j with
    | 0 =>
      rw [List.flatMap_cons, List.set_append_left _ _ (by rw [hk]; omega), List.set_cons_zero, List.flatMap_cons, hy]
      simp
    | j + 1 =>
      rw [List.flatMap_cons, List.set_cons_succ, List.flatMap_cons, ← ih j (by simpa using hj) (by simpa using hy), List.set_append_right _ _ (by rw [hk, Nat.succ_mul]; omega)]
      rw [show (j + 1) * k + i - (enc x).length = j * k + i from by rw [hk, Nat.succ_mul]; omega]

/-- A row of one's own behind a store of one cell. -/
theorem own_set {w : World} {base : Nat} {e : TypeId} {k n g c : Nat} {xs : List Value} (h : w.ownsRow base e k (.slice (some ⟨g, 0, none⟩) n c) n xs) (j : Nat) (u : Value) :
    (w.setCell ⟨g, j, none⟩ u).ownsRow base e k (.slice (some ⟨g, 0, none⟩) n c) n (xs.set j u) := by
  rcases h.2 with ⟨he, _⟩ | ⟨g', c', cur, he, hg, hrow, hn, hm, hs, ht⟩
  · cases he
  · injection he with h1 _ h3
    injection h1 with h1
    injection h1 with h1 _
    subst h1 h3
    refine own_of (by rw [List.length_set]; exact h.1) hg (Blk.set_ hrow j u) hn hm (by simpa using hs) ?_
    rw [take_set, ht]

/-- Two lists, element by element. -/
def eqL {α : Type} (eq : α → α → Bool) : List α → List α → Bool
  | [], [] => true
  | x :: xs, y :: ys => eq x y && eqL eq xs ys
  | _, _ => false

theorem eqL_len {α : Type} {eq : α → α → Bool} : ∀ {xs ys : List α}, eqL eq xs ys = true → xs.length = ys.length
  | [], [], _ => rfl
  | _ :: _, _ :: _, h => by
    simp only [eqL, Bool.and_eq_true] at h
    simpa using eqL_len h.2
  | [], _ :: _, h => by simp [eqL] at h
  | _ :: _, [], h => by simp [eqL] at h

theorem eqL_all {α : Type} {eq : α → α → Bool} : ∀ {xs ys : List α} (h : xs.length = ys.length), (∀ j (h1 : j < xs.length), eq xs[j] (ys[j]'(h ▸ h1)) = true) → eqL eq xs ys = true
  | [], [], _, _ => rfl
  | x :: xs, y :: ys, h, hh => by
    simp only [eqL, Bool.and_eq_true]
    exact ⟨hh 0 (by simp), eqL_all (by simpa using h) fun j h1 => hh (j + 1) (by simpa using h1)⟩

theorem eqL_at {α : Type} {eq : α → α → Bool} : ∀ {xs ys : List α} (h : xs.length = ys.length) (j : Nat) (h1 : j < xs.length), eqL eq xs ys = true → eq xs[j] (ys[j]'(h ▸ h1)) = true
  | x :: xs, y :: ys, h, j, h1, he => by
    simp only [eqL, Bool.and_eq_true] at he
    match j with
    | 0 => exact he.1
    | j + 1 => exact eqL_at (by simpa using h) j (by simpa using h1) he.2

/-- The element at j of a slice that reads as xs: where its cells lie, now and in any later world. -/
theorem Sl.elem {α : Type} {k : Nat} (enc : α → List Value) (hk : ∀ x, (enc x).length = k) {w : World} {xs : List α} {a : Addr} {c : Nat} (h : Sl w k (.slice (some a) xs.length c) xs.length (xs.flatMap enc)) :
    ∀ (W : World), Below w.heap.size w W → ∀ j (hj : j < xs.length), a.spot = none ∧ a.block < w.heap.size ∧ ∀ i u, (enc xs[j])[i]? = some u → W.cell? ⟨a.block, a.off + j * k + i, none⟩ = some u := by
  intro W hW j hj
  obtain ⟨hl, ⟨he, _⟩ | ⟨a', c', he, hc, hm, hr⟩⟩ := h
  · cases he
  · injection he with h1 _ h3
    injection h1 with h1
    subst h1 h3
    obtain ⟨hs, hC⟩ := hr (by omega)
    refine ⟨hs, hC.1, fun i u hi => ?_⟩
    rw [Nat.add_assoc]
    exact (hC.same hW).2 _ _ (flat_get enc hk xs j hj i u hi)

/-! ### Steps of a drawn region, in few words -/
theorem tkW {P : Program} {md : Region.Mode} {ops : Array Oper} {S : World → Prop} {Q : Exit → Act → World → Prop} (i : Nat) (oi : Oper) {v : Value} {fuel : Nat} {listed : Array Bool} {a : Act} {w : World} (hi : ops[i]? = some oi)
    (hy : YieldsIf P ops S oi v a) (h : wpAnyH P md ops Q S fuel (listed.setIfInBounds i true) (a.put oi.dst v) w)
    (hs : Region.noSelect ops = true := by kernel_rfl) (hf : Region.free md ops listed i = true := by kernel_rfl) (hr : (Region.ready md ops listed).contains i = true := by kernel_rfl)
    (hQ : ∀ c a w, Q (.panic c) (a.put oi.dst v) w → Q (.panic c) a w := by exact fun _ _ _ h => h) (hS : S w := by assumption) : wpAnyH P md ops Q S (fuel + 1) listed a w :=
  wpAnyH_take hi hs hf hr hQ hy hS h
theorem putW (l : List Value) (d : List Deferred) (n : Nat) (v : Value) : Act.put ⟨l.toArray, d⟩ (some n) v = ⟨(l.set n v).toArray, d⟩ := by
  simp [Act.put]
theorem setZ {α : Type} (a b : α) (l : List α) : (a :: l).set 0 b = b :: l := rfl
theorem setS {α : Type} (a b : α) (l : List α) (n : Nat) : (a :: l).set (n + 1) b = a :: l.set n b := rfl
/-- The take of operation i: its value, and the row of temporaries behind it, found by program. -/
theorem tkA {P : Program} {md : Region.Mode} {ops : Array Oper} {S : World → Prop} {Q : Exit → Act → World → Prop} (i : Nat) {d : Nat} {op : Op} {ty : TypeId} {pos : String} {af : Array Edge} {g : Option (Nat × Bool)} {v : Value} {fuel : Nat} {listed : Array Bool} {ts ts' : List Value} {ds : List Deferred} {w : World}
    (h : wpAnyH P md ops Q S fuel (listed.setIfInBounds i true) ⟨ts'.toArray, ds⟩ w)
    (hi : ops[i]? = some ⟨some d, op, ty, pos, af, g⟩ := by rfl)
    (hw : Region.wanted ⟨some d, op, ty, pos, af, g⟩ (yielded ops ts.toArray) = true := by rfl)
    (hy : ∀ w, S w → (execOp (Act.eval ⟨ts.toArray, ds⟩) ⟨some d, op, ty, pos, af, g⟩).run P w = .ok (.value v) w := by (intro w hSw; (try dsimp only at hSw); go_simp <;> with_reducible rfl))
    (ht : ts.set d v = ts' := by (simp only [setZ, setS]; exact rfl))
    (hs : Region.noSelect ops = true := by kernel_rfl) (hf : Region.free md ops listed i = true := by kernel_rfl) (hr : (Region.ready md ops listed).contains i = true := by kernel_rfl)
    (hQ : ∀ c a w, Q (.panic c) (a.put (some d) v) w → Q (.panic c) a w := by exact fun _ _ _ h => h) (hS : S w := by assumption) : wpAnyH P md ops Q S (fuel + 1) listed ⟨ts.toArray, ds⟩ w :=
  wpAnyH_take hi hs hf hr hQ (Or.inl ⟨hw, hy⟩) hS (by rw [putW, ht]; exact h)
/-- .. of one whose guard is not met. -/
theorem skA {P : Program} {md : Region.Mode} {ops : Array Oper} {S : World → Prop} {Q : Exit → Act → World → Prop} (i : Nat) {d : Nat} {op : Op} {ty : TypeId} {pos : String} {af : Array Edge} {g : Option (Nat × Bool)} {fuel : Nat} {listed : Array Bool} {ts ts' : List Value} {ds : List Deferred} {w : World}
    (h : wpAnyH P md ops Q S fuel (listed.setIfInBounds i true) ⟨ts'.toArray, ds⟩ w)
    (hi : ops[i]? = some ⟨some d, op, ty, pos, af, g⟩ := by rfl)
    (hw : Region.wanted ⟨some d, op, ty, pos, af, g⟩ (yielded ops ts.toArray) = false := by rfl)
    (ht : ts.set d undef = ts' := by (simp only [setZ, setS]; exact rfl))
    (hs : Region.noSelect ops = true := by kernel_rfl) (hf : Region.free md ops listed i = true := by kernel_rfl) (hr : (Region.ready md ops listed).contains i = true := by kernel_rfl)
    (hQ : ∀ c a w, Q (.panic c) (a.put (some d) undef) w → Q (.panic c) a w := by exact fun _ _ _ h => h) (hS : S w := by assumption) : wpAnyH P md ops Q S (fuel + 1) listed ⟨ts.toArray, ds⟩ w :=
  wpAnyH_take hi hs hf hr hQ (Or.inr ⟨hw, rfl⟩) hS (by rw [putW, ht]; exact h)
/-- The one operation that comes up is carried out. -/
theorem stA {P : Program} {md : Region.Mode} {ops : Array Oper} {S : World → Prop} {Q : Exit → Act → World → Prop} (i : Nat) {d : Option Nat} {op : Op} {ty : TypeId} {pos : String} {af : Array Edge} {g : Option (Nat × Bool)} {fuel : Nat} {listed : Array Bool} {a : Act} {w : World}
    (h : ∀ K : Act → World → Prop, Shut (∀ a w, S w → (S w → wpAnyH P md ops Q S fuel (listed.setIfInBounds i true) a w) → K a w) → if Region.wanted ⟨d, op, ty, pos, af, g⟩ (yielded ops a.tmps) = true then Oper.wp P ⟨d, op, ty, pos, af, g⟩ a w K Q else K (a.put d undef) w)
    (hi : ops[i]? = some ⟨d, op, ty, pos, af, g⟩ := by rfl) (hr : Region.ready md ops listed = [i] := by kernel_rfl) : wpAnyH P md ops Q S (fuel + 1) listed a w :=
  wpAnyH_ready hr (by simp) (AllReadyH.cons hi h AllReadyH.nil)
/-- .. one of several. -/
theorem conA {P : Program} {md : Region.Mode} {ops : Array Oper} {S : World → Prop} {Q : Exit → Act → World → Prop} {i : Nat} {d : Option Nat} {op : Op} {ty : TypeId} {pos : String} {af : Array Edge} {g : Option (Nat × Bool)} {fuel : Nat} {listed : Array Bool} {a : Act} {w : World} {rs : List Nat}
    (h : ∀ K : Act → World → Prop, Shut (∀ a w, S w → (S w → wpAnyH P md ops Q S fuel (listed.setIfInBounds i true) a w) → K a w) → if Region.wanted ⟨d, op, ty, pos, af, g⟩ (yielded ops a.tmps) = true then Oper.wp P ⟨d, op, ty, pos, af, g⟩ a w K Q else K (a.put d undef) w)
    (hs : AllReadyH P md ops Q S fuel listed a w rs) (hi : ops[i]? = some ⟨d, op, ty, pos, af, g⟩ := by rfl) : AllReadyH P md ops Q S fuel listed a w (i :: rs) :=
  AllReadyH.cons hi h hs
end Go.Proofs.Ytngimbfojccikaa
