/- Tables of pages in memory: words for a slice of slices, and the clones of both. -/
import Derived.Test.YtoogobenjhmjjaaPgUsed
import Derived.Test.YtoogobenjhmjjaaPgSame
import Derived.Test.YtoogobenjhmjjaaPgShare
import Derived.Test.YtoogobenjhmjjaaPgFree
import Derived.Test.YtoogobenjhmjjaaPgWrite3
namespace Go.Proofs.Ytoogobenjhmjjaa
open Go Go.RowKit
set_option linter.unusedVariables false

def encI (x : Int) : List Value := [.int .i64 x]
theorem encI_len : ∀ x : Int, (encI x).length = 1 := fun _ => rfl
theorem encI_one (t : List Int) : ∀ u ∈ t.flatMap encI, u.oneCell' = true := by
  intro u hu
  obtain ⟨p, _, hp⟩ := List.mem_flatMap.1 hu
  simp only [encI, List.mem_cons, List.not_mem_nil, or_false] at hp
  subst hp; rfl
theorem encI_get (t : List Int) (j : Nat) (hj : j < t.length) : (t.flatMap encI)[j]? = some (.int .i64 t[j]) := by
  have := flat_get encI encI_len t j hj 0 _ rfl
  simpa using this

theorem clone_ints_info : (Try.prog.info? 3).map (fun i => (i.zero, i.size, i.bytes)) = some (some (.int .i64 0), 1, 8) := by kernel_rfl

set_option maxHeartbeats 400000 in
theorem clone_ints (v : Value) (n : Nat) (vs : List Value) (w : World) (hv : Sl w 1 v n vs) (h1 : ∀ u ∈ vs, u.oneCell' = true) (hn : n * 8 ≤ 140737488355328) :
    Calls Try.prog 58 #[v] w fun e w' => ∃ v', e = .returned v' ∧ w'.ownsRow w.heap.size 3 1 v' n vs ∧ Below w.heap.size w w' := by
  obtain ⟨i0, hi0, hz0, hz1, hz2⟩ := info_parts clone_ints_info
  have e1 := @Lib.run_eql_slice_nil
  obtain ⟨hl, ⟨rfl, rfl⟩ | ⟨a, c, rfl, hc, hm, hr⟩⟩ := hv
  · go_enter Try.func58, Try.ntmps58
    go_wp2_with fail
    go_ret
    obtain rfl : vs = [] := List.eq_nil_of_length_eq_zero (by omega)
    exact ⟨_, rfl, World.ownsRow_nil _ _ _ _, Below.refl _ _⟩
  · have hnews : ∀ j u, vs[j]? = some u → (w.alloc (.cells #[] 3)).cell? (a.add j) = some u := by
      intro j u hu
      have hn0 : 0 < n := by
        rcases Nat.eq_zero_or_pos n with h | h
        · subst h; have := (List.getElem?_eq_some_iff.1 hu).1; omega
        · exact h
      obtain ⟨hs, hb, hC⟩ := hr hn0
      obtain ⟨b, o, s⟩ := a
      simp only at hs hb hC; subst hs
      rw [add_none, World.cell?_alloc_lt _ _ _ hb]
      exact hC j u hu
    go_enter Try.func58, Try.ntmps58
    go_wp2_with (at_builtin; refine wpList_append_own_at _ rfl (.tmp 5) (.tmp 6) _ rfl w.heap.size 3 i0 _ 1 8 Try.underlying47 hi0 hz0 hz1 hz2 rfl (by omega) (.slice (some ⟨w.heap.size, 0, none⟩) 0 0) 0 [] rfl (World.ownsRow_made w #[] 0 (Nat.le_refl _) (by unfold maxLen; omega) rfl) a n c vs rfl hl hnews h1 (by omega) (by omega) (by simp) ?_; intro v1 w1 hown hgrow _ _)
    go_ret
    simp only [Nat.zero_add, List.nil_append] at hown
    exact ⟨_, rfl, hown, ((Below.refl w.heap.size w).alloc (Nat.le_refl _) _).grown hgrow (by simp) (by simp [Value.ownBlock])⟩
theorem clone_tabs_info : (Try.prog.info? 47).map (fun i => (i.zero, i.size, i.bytes)) = some (some (.slice none 0 0), 1, 24) := by kernel_rfl

set_option maxHeartbeats 400000 in
theorem clone_tabs (v : Value) (n : Nat) (vs : List Value) (w : World) (hv : Sl w 1 v n vs) (h1 : ∀ u ∈ vs, u.oneCell' = true) (hn : n * 24 ≤ 140737488355328) :
    Calls Try.prog 57 #[v] w fun e w' => ∃ v', e = .returned v' ∧ w'.ownsRow w.heap.size 47 1 v' n vs ∧ Below w.heap.size w w' := by
  obtain ⟨i0, hi0, hz0, hz1, hz2⟩ := info_parts clone_tabs_info
  have e1 := @Lib.run_eql_slice_nil
  obtain ⟨hl, ⟨rfl, rfl⟩ | ⟨a, c, rfl, hc, hm, hr⟩⟩ := hv
  · go_enter Try.func57, Try.ntmps57
    go_wp2_with fail
    go_ret
    obtain rfl : vs = [] := List.eq_nil_of_length_eq_zero (by omega)
    exact ⟨_, rfl, World.ownsRow_nil _ _ _ _, Below.refl _ _⟩
  · have hnews : ∀ j u, vs[j]? = some u → (w.alloc (.cells #[] 47)).cell? (a.add j) = some u := by
      intro j u hu
      have hn0 : 0 < n := by
        rcases Nat.eq_zero_or_pos n with h | h
        · subst h; have := (List.getElem?_eq_some_iff.1 hu).1; omega
        · exact h
      obtain ⟨hs, hb, hC⟩ := hr hn0
      obtain ⟨b, o, s⟩ := a
      simp only at hs hb hC; subst hs
      rw [add_none, World.cell?_alloc_lt _ _ _ hb]
      exact hC j u hu
    go_enter Try.func57, Try.ntmps57
    go_wp2_with (at_builtin; refine wpList_append_own_at _ rfl (.tmp 5) (.tmp 6) _ rfl w.heap.size 47 i0 _ 1 24 Try.underlying26 hi0 hz0 hz1 hz2 rfl (by omega) (.slice (some ⟨w.heap.size, 0, none⟩) 0 0) 0 [] rfl (World.ownsRow_made w #[] 0 (Nat.le_refl _) (by unfold maxLen; omega) rfl) a n c vs rfl hl hnews h1 (by omega) (by omega) (by simp) ?_; intro v1 w1 hown hgrow _ _)
    go_ret
    simp only [Nat.zero_add, List.nil_append] at hown
    exact ⟨_, rfl, hown, ((Below.refl w.heap.size w).alloc (Nat.le_refl _) _).grown hgrow (by simp) (by simp [Value.ownBlock])⟩

/-- Each of these slice values reads as its table. -/
def TbS (w : World) (tvs : List Value) (ts : List (List Int)) : Prop :=
  tvs.length = ts.length ∧ ∀ (i : Nat) (v : Value) (t : List Int), tvs[i]? = some v → ts[i]? = some t → Sl w 1 v t.length (t.flatMap encI)
/-- A slice of slices that reads as tables. -/
def TbV (w : World) (tv : Value) (ts : List (List Int)) : Prop := ∃ tvs, Sl w 1 tv ts.length tvs ∧ TbS w tvs ts
/-- A heap's value. -/
def HpV (w : World) (v : Value) (cap : Int) (ps : List Pg) (ts : List (List Int)) : Prop :=
  ∃ pv tv, v = .agg #[.int .i64 cap, pv, tv] ∧ Sl w 5 pv ps.length (ps.flatMap encP) ∧ TbV w tv ts

section
variable {w w' : World} {tvs : List Value} {tv v pv : Value} {ts : List (List Int)} {cap : Int} {ps : List Pg}
theorem TbS.below (h : TbS w tvs ts) (hb : Below w.heap.size w w') : TbS w' tvs ts := ⟨h.1, fun i v t h1 h2 => (h.2 i v t h1 h2).below hb⟩
theorem TbV.below (h : TbV w tv ts) (hb : Below w.heap.size w w') : TbV w' tv ts := by
  obtain ⟨tvs, h1, h2⟩ := h
  exact ⟨tvs, h1.below hb, h2.below hb⟩
theorem HpV.keep (h : HpV w v cap ps ts) (hb : Below w.heap.size w w') : HpV w' v cap ps ts := by
  obtain ⟨pv, tv, rfl, h1, h2⟩ := h
  exact ⟨pv, tv, rfl, h1.below hb, h2.below hb⟩
theorem TbV.form (h : TbV w tv ts) : ∃ A c, tv = .slice A ts.length c ∧ ts.length ≤ c ∧ c ≤ maxLen := by
  obtain ⟨tvs, h1, h2⟩ := h
  exact h1.form
theorem HpV.form (h : HpV w v cap ps ts) : ∃ A c A2 c2, v = .agg #[.int .i64 cap, .slice A ps.length c, .slice A2 ts.length c2] ∧ HpV w (.agg #[.int .i64 cap, .slice A ps.length c, .slice A2 ts.length c2]) cap ps ts := by
  obtain ⟨pv, tv, rfl, h1, h2⟩ := h
  obtain ⟨A, c, rfl, _, _⟩ := h1.form
  obtain ⟨A2, c2, rfl, _, _⟩ := h2.form
  exact ⟨A, c, A2, c2, rfl, _, _, rfl, h1, h2⟩
theorem HpV.pages {cap' : Int} (h : HpV w (.agg #[.int .i64 cap', pv, tv]) cap ps ts) : Sl w 5 pv ps.length (ps.flatMap encP) := by
  obtain ⟨pv', tv', e, h1, h2⟩ := h
  injection e with e; simp at e
  obtain ⟨_, rfl, rfl⟩ := e
  exact h1
theorem HpV.tabs {cap' : Int} (h : HpV w (.agg #[.int .i64 cap', pv, tv]) cap ps ts) : TbV w tv ts := by
  obtain ⟨pv', tv', e, h1, h2⟩ := h
  injection e with e; simp at e
  obtain ⟨_, rfl, rfl⟩ := e
  exact h2
theorem HpV.store {cap' : Int} (h : HpV w (.agg #[.int .i64 cap', pv, tv]) cap ps ts) : StV w (.agg #[.int .i64 cap', pv]) cap' ps :=
  ⟨pv, rfl, h.pages⟩
/-- Where a table's slice value lies, and what it reads as. -/
theorem TbV.elem {A : Option Addr} {n c : Nat} (h : TbV w (.slice A n c) ts) (h0 : 0 < ts.length) :
    ∃ b o, A = some ⟨b, o, none⟩ ∧ b < w.heap.size ∧ ∀ j (hj : j < ts.length), ∃ A' c', w.cell? ⟨b, o + j, none⟩ = some (.slice A' ts[j].length c') ∧ Sl w 1 (.slice A' ts[j].length c') ts[j].length (ts[j].flatMap encI) := by
  obtain ⟨tvs, hs, hl, ht⟩ := h
  rcases hs.2 with ⟨h, h'⟩ | ⟨a, c', h, _, _, hr⟩
  · omega
  · injection h with h1 h2 h3
    subst h1
    obtain ⟨hsp, hC⟩ := hr h0
    obtain ⟨b, o, s⟩ := a
    simp only at hsp hC
    subst hsp
    refine ⟨b, o, rfl, hC.1, fun j hj => ?_⟩
    have hj' : j < tvs.length := by omega
    have h1 := ht j tvs[j] ts[j] (List.getElem?_eq_getElem hj') (List.getElem?_eq_getElem hj)
    obtain ⟨A', c', e, _, _⟩ := h1.form
    refine ⟨A', c', ?_, e ▸ h1⟩
    rw [← e]
    exact hC.2 j _ (List.getElem?_eq_getElem hj')
/-- Where a table's words lie. -/
theorem ints_elem {A : Option Addr} {n c : Nat} {t : List Int} (h : Sl w 1 (.slice A n c) t.length (t.flatMap encI)) (h0 : 0 < t.length) :
    ∃ b o, A = some ⟨b, o, none⟩ ∧ b < w.heap.size ∧ ∀ j (hj : j < t.length), w.cell? ⟨b, o + j, none⟩ = some (.int .i64 t[j]) := by
  rcases h.2 with ⟨h, h'⟩ | ⟨a, c', h, _, _, hr⟩
  · omega
  · injection h with h1 h2 h3
    subst h1
    obtain ⟨hsp, hC⟩ := hr h0
    obtain ⟨b, o, s⟩ := a
    simp only at hsp hC
    subst hsp
    exact ⟨b, o, rfl, hC.1, fun j hj => hC.2 j _ (encI_get t j hj)⟩
end

/-- Tables of one's own, from base on, below hi: the slice of slices, and each table, no two of them in one block. -/
def TbO (w : World) (base hi : Nat) (tv : Value) (tvs : List Value) (ts : List (List Int)) : Prop :=
  w.ownsRow base 47 1 tv ts.length tvs ∧ (∀ g, tv.ownBlock = some g → g < hi) ∧ tvs.length = ts.length ∧
    (∀ (i : Nat) (v : Value) (t : List Int), tvs[i]? = some v → ts[i]? = some t → w.ownsRow base 3 1 v t.length (t.flatMap encI) ∧ ∀ g, v.ownBlock = some g → g < hi) ∧
    (∀ (i j : Nat) (v v' : Value) (g : Nat), i < j → tvs[i]? = some v → tvs[j]? = some v' → v.ownBlock = some g → v'.ownBlock ≠ some g)

section
variable {w w' : World} {base hi : Nat} {tv : Value} {tvs : List Value} {ts : List (List Int)}
theorem own_block_ge {w : World} {base : Nat} {e : TypeId} {k n : Nat} {v : Value} {xs : List Value} (h : w.ownsRow base e k v n xs) {b : Nat} (hb : v.ownBlock = some b) : base ≤ b ∧ b < w.heap.size := by
  rcases h.2 with ⟨rfl, _⟩ | ⟨g, cap, cur, rfl, hg, hh, _⟩
  · simp [Value.ownBlock] at hb
  · have : g = b := by simpa [Value.ownBlock] using hb
    subst this
    exact ⟨hg, (Array.getElem?_eq_some_iff.1 hh).1⟩
theorem TbO.keep (h : TbO w base hi tv tvs ts) (hb : Below w.heap.size w w') : TbO w' base hi tv tvs ts :=
  ⟨own_below h.1 hb, h.2.1, h.2.2.1, fun i v t h1 h2 => ⟨own_below (h.2.2.2.1 i v t h1 h2).1 hb, (h.2.2.2.1 i v t h1 h2).2⟩, h.2.2.2.2⟩
theorem TbO.tabs (h : TbO w base hi tv tvs ts) : TbV w tv ts :=
  ⟨tvs, Sl.of_own h.1, h.2.2.1, fun i v t h1 h2 => Sl.of_own (h.2.2.2.1 i v t h1 h2).1⟩
/-- A store into a block that is none of theirs. -/
theorem TbO.far (h : TbO w base hi tv tvs ts) {p : Addr} (h1 : tv.ownBlock ≠ some p.block) (h2 : ∀ (i : Nat) (v : Value), tvs[i]? = some v → v.ownBlock ≠ some p.block) (u : Value) : TbO (w.setCell p u) base hi tv tvs ts :=
  ⟨own_far h.1 h1 u, h.2.1, h.2.2.1, fun i v t e1 e2 => ⟨own_far (h.2.2.2.1 i v t e1 e2).1 (h2 i v e1) u, (h.2.2.2.1 i v t e1 e2).2⟩, h.2.2.2.2⟩
/-- A store into a block of another type. -/
theorem TbO.other (h : TbO w base hi tv tvs ts) {g : Nat} {t : TypeId} {cs : Array Value} (hg : Blk w g t cs) (n1 : 47 ≠ t) (n2 : 3 ≠ t) (o : Nat) (u : Value) : TbO (w.setCell ⟨g, o, none⟩ u) base hi tv tvs ts :=
  h.far (own_ne h.1 hg n1) (fun i v e => by
    have hi : i < ts.length := by rw [← h.2.2.1]; exact (List.getElem?_eq_some_iff.1 e).1
    exact own_ne (h.2.2.2.1 i v ts[i] e (List.getElem?_eq_getElem hi)).1 hg n2) u
end
end Go.Proofs.Ytoogobenjhmjjaa
