/- Several texts in one: StInsert, StInsert2. -/
import Derived.Test.YtngimbfojccikaaStmTellsG
import Derived.Lib.AppendZerosOnto
import Derived.Lib.Overlaps
import Derived.Laws.Externs
import Derived.Laws.NewBlocks
import Derived.Shelf.RegionOpenPlain
namespace Go.Proofs.Ytngimbfojccikaa
set_option linter.unusedSimpArgs false
open Go Go.RowKit
set_option linter.unusedVariables false
set_option maxRecDepth 100000

/-- What Insert hands back: the row with one pair more, in its place or in a new one. -/
def InsPost (base : Nat) (W : World) (A : Option Addr) (c : Nat) (l : List Pr) (i : Nat) (x : Pr) (e : Ending) (w' : World) : Prop :=
  ∃ A' c', e = .returned (.slice A' (l.length + 1) c') ∧ PRow w' base A' c' (l.take i ++ x :: l.drop i) ∧ W.grownBy w' (Value.slice A l.length c).ownBlock ∧ ∀ b, A' = some b → A = some b ∨ W.heap.size ≤ b.block

theorem ins_len {l : List Pr} {i : Nat} (hi : i ≤ l.length) (x : Pr) : (l.take i ++ x :: l.drop i).length = l.length + 1 := by
  simp; omega

set_option maxHeartbeats 4000000 in
theorem ins_end (base : Nat) (A : Option Addr) (c : Nat) (l : List Pr) (x : Pr) (vb : Nat) (w : World) (h : PRow w base A c l) (hb : base ≤ w.heap.size) (hl : l.length ≤ 1000) (hv : Blk w vb 55 #[.int .i64 x.at_, .int .i64 x.v]) :
    Calls Try.prog 83 #[.slice A l.length c, .int .i64 (l.length : Int), .slice (some ⟨vb, 0, none⟩) 1 1] w (InsPost base w A c l l.length x) := by
  obtain ⟨i0, hi0, hz0, hz1, hz2⟩ := info_parts clone_pair_info
  have HOWN := Lib.hid h
  have hform : (A = none ∧ c = 0 ∧ l.length = 0) ∨ ∃ g, A = some ⟨g, 0, none⟩ ∧ l.length ≤ c ∧ c ≤ maxLen := by
    rcases h.2 with ⟨e, h0⟩ | ⟨g, cap, cur, e, _, _, h3, h4, _⟩
    · injection e with e1 e2 e3
      exact .inl ⟨e1, e3, h0⟩
    · injection e with e1 _ e3
      subst e3
      exact .inr ⟨g, e1, h3, h4⟩
  have HNEWS := Lib.hid (show ∀ j u, ([.int .i64 x.at_, .int .i64 x.v] : List Value)[j]? = some u → w.cell? ((⟨vb, 0, none⟩ : Addr).add j) = some u from by
    intro j u hu
    rw [add_none, Nat.zero_add, hv.cell]
    simpa using hu)
  have HEND := Lib.hid (fun v' w' (ho : w'.ownsRow base 55 2 v' (l.length + 1) (l.flatMap encPr ++ [.int .i64 x.at_, .int .i64 x.v])) (hg : w.grownBy w' (Value.slice A l.length c).ownBlock) (hat : v'.ownBlock = (Value.slice A l.length c).ownBlock ∨ v'.ownBlock = some w.heap.size) => (show InsPost base w A c l l.length x (.returned v') w' from by
    obtain ⟨g, cap, cur, rfl, _⟩ := own_form ho (by omega)
    have hrow : PRow w' base (some ⟨g, 0, none⟩) cap (l.take l.length ++ x :: l.drop l.length) := by
      unfold PRow
      rw [ins_len (Nat.le_refl _), List.take_length, List.drop_length, List.flatMap_append]
      exact ho
    refine ⟨_, _, rfl, hrow, hg, fun b hb => ?_⟩
    injection hb with hb
    subst hb
    rcases hat with e | e
    · refine .inl ?_
      simp only [Value.ownBlock] at e
      rcases hform with ⟨rfl, _⟩ | ⟨g', rfl, _⟩
      · cases e
      · simp only [Option.some.injEq] at e; rw [e]
    · simp only [Value.ownBlock, Option.some.injEq] at e
      exact .inr (by show w.heap.size ≤ g; omega)))
  obtain ⟨n, hn⟩ : ∃ n, n = l.length := ⟨_, rfl⟩
  have HOWN' : Hid (w.ownsRow base 55 2 (.slice A n c) n (l.flatMap encPr)) := by rw [hn]; exact HOWN.out
  rw [← hn] at HEND hl hform ⊢
  clear h hn HOWN hv
  rcases hform with ⟨rfl, rfl, h0⟩ | ⟨g, rfl, h1, h2⟩
  · subst h0
    go_enter Try.func83, Try.ntmps83
    go_wp2_with (at_builtin; refine wpList_append_own_at _ rfl (.tmp 23) (.tmp 24) _ rfl base 55 i0 _ 2 16 Try.underlying44 hi0 hz0 hz1 hz2 rfl (by omega) (.slice none 0 0) 0 _ rfl HOWN'.out ⟨vb, 0, none⟩ 1 1 _ rfl rfl HNEWS.out (by simp [Value.oneCell']) (by unfold maxLen; omega) (by omega) hb ?_; intro v1 w1 hown1 hgrow _ hat; have HE := Lib.hid (HEND.out v1 w1 hown1 hgrow hat); clear hown1 hgrow hat)
    go_ret
    exact HE.out
  · by_cases hc : c = n
    · subst hc
      go_enter Try.func83, Try.ntmps83
      go_wp2_with (at_builtin; refine wpList_append_own_at _ rfl (.tmp 23) (.tmp 24) _ rfl base 55 i0 _ 2 16 Try.underlying44 hi0 hz0 hz1 hz2 rfl (by omega) (.slice (some ⟨g, 0, none⟩) c c) c _ rfl HOWN'.out ⟨vb, 0, none⟩ 1 1 _ rfl rfl HNEWS.out (by simp [Value.oneCell']) (by unfold maxLen; omega) (by omega) hb ?_; intro v1 w1 hown1 hgrow _ hat; have HE := Lib.hid (HEND.out v1 w1 hown1 hgrow hat); clear hown1 hgrow hat)
      go_ret
      exact HE.out
    · unfold maxLen at h2
      have hc1 : (n : Int) ≤ (n : Int) := by omega
      go_enter Try.func83, Try.ntmps83
      go_wp2_with (at_builtin; refine wpList_append_own_at _ rfl (.tmp 23) (.tmp 24) _ rfl base 55 i0 _ 2 16 Try.underlying44 hi0 hz0 hz1 hz2 rfl (by omega) (.slice (some ⟨g, 0, none⟩) n c) n _ rfl HOWN'.out ⟨vb, 0, none⟩ 1 1 _ rfl rfl HNEWS.out (by simp [Value.oneCell']) (by unfold maxLen; omega) (by omega) hb ?_; intro v1 w1 hown1 hgrow _ hat; have HE := Lib.hid (HEND.out v1 w1 hown1 hgrow hat); clear hown1 hgrow hat)
      go_ret
      exact HE.out

theorem shape_blk {w : World} {g : Nat} {t : TypeId} {cs : Array Value} (h : Blk w g t cs) : w.shape? g = some (t, cs.size) := by
  unfold Blk at h
  simp [World.shape?, h]
theorem pair_size : (Try.prog.info? 55).map (·.size) = some 2 := by kernel_rfl
theorem sizeOf_pair : ∀ w, (Go.sizeOf 55).run Try.prog w = .ok 2 w := fun w => by
  obtain ⟨i0, hi0, hz0, hz1, hz2⟩ := info_parts clone_pair_info
  simp [sizeOf, typeInfo, hi0, hz1]

/-- The cells of the row behind the two copies. -/
theorem ins_row {l : List Pr} {cur : Array Value} {c i : Nat} {x : Pr} (hs : cur.size = c * 2) (ht : cur.toList.take (l.length * 2) = l.flatMap encPr) (hi : i < l.length) (hc : l.length < c) (cur1 cur2 : Array Value)
    (h1 : cur1 = (cur.toList.take ((i + 1) * 2) ++ (l.drop i).flatMap encPr ++ cur.toList.drop ((i + 1) * 2 + ((l.drop i).flatMap encPr).length)).toArray)
    (h2 : cur2 = (cur1.toList.take (i * 2) ++ encPr x ++ cur1.toList.drop (i * 2 + (encPr x).length)).toArray) :
    cur1.size = c * 2 ∧ cur2.size = c * 2 ∧ cur2.toList.take ((l.length + 1) * 2) = (l.take i ++ x :: l.drop i).flatMap encPr := by
  have hdl : ((l.drop i).flatMap encPr).length = (l.length - i) * 2 := by rw [flat_len encPr encPr_len, List.length_drop]
  have hl1 : cur1.toList.length = c * 2 := by
    rw [h1]
    simp only [List.length_append, List.length_take, List.length_drop, Array.length_toList, hdl, hs]
    omega
  have htk : cur.toList.take (i * 2) = (l.take i).flatMap encPr := by
    have e : cur.toList.take (i * 2) = (cur.toList.take (l.length * 2)).take (i * 2) := by rw [List.take_take, Nat.min_eq_left (by omega)]
    rw [e, ht]
    have e2 : l.flatMap encPr = (l.take i).flatMap encPr ++ (l.drop i).flatMap encPr := by rw [← List.flatMap_append, List.take_append_drop]
    rw [e2, List.take_append_of_le_length (by rw [flat_len encPr encPr_len, List.length_take]; omega), List.take_of_length_le (by rw [flat_len encPr encPr_len, List.length_take]; omega)]
  have hc1t : cur1.toList.take (i * 2) = (l.take i).flatMap encPr := by
    rw [h1]
    simp only [List.append_assoc]
    rw [List.take_append_of_le_length (by simp [hs]; omega), List.take_take, Nat.min_eq_left (by omega), htk]
  have hc1d : cur1.toList.drop (i * 2 + 2) = (l.drop i).flatMap encPr ++ cur.toList.drop ((i + 1) * 2 + ((l.drop i).flatMap encPr).length) := by
    rw [h1]
    simp only [List.append_assoc]
    rw [List.drop_append_of_le_length (by simp [hs]; omega), List.drop_of_length_le (by simp [hs]; omega), List.nil_append]
  refine ⟨by simpa using hl1, ?_, ?_⟩
  · rw [h2, hc1t, encPr_len, hc1d]
    simp only [List.size_toArray, List.length_append, encPr_len, hdl, List.length_drop, Array.length_toList, hs, flat_len encPr encPr_len, List.length_take]
    omega
  · rw [h2, hc1t, encPr_len, hc1d]
    rw [List.flatMap_append, List.flatMap_cons]
    rw [show ((l.take i).flatMap encPr ++ encPr x ++ ((l.drop i).flatMap encPr ++ cur.toList.drop ((i + 1) * 2 + ((l.drop i).flatMap encPr).length))) = ((l.take i).flatMap encPr ++ (encPr x ++ (l.drop i).flatMap encPr)) ++ cur.toList.drop ((i + 1) * 2 + ((l.drop i).flatMap encPr).length) from by simp only [List.append_assoc]]
    rw [List.take_append_of_le_length (by simp only [List.length_append, flat_len encPr encPr_len, encPr_len, List.length_take, List.length_drop]; omega), List.take_of_length_le (by simp only [List.length_append, flat_len encPr encPr_len, encPr_len, List.length_take, List.length_drop]; omega)]

set_option maxHeartbeats 4000000 in
theorem ins_shift (base : Nat) (A : Option Addr) (c : Nat) (l : List Pr) (i : Nat) (x : Pr) (vb : Nat) (w : World) (h : PRow w base A c l) (hl : l.length ≤ 1000) (hi : i < l.length) (hc : l.length < c) (hv : Blk w vb 55 #[.int .i64 x.at_, .int .i64 x.v]) (hvA : ∀ b, A = some b → b.block ≠ vb) :
    Calls Try.prog 83 #[.slice A l.length c, .int .i64 (i : Int), .slice (some ⟨vb, 0, none⟩) 1 1] w (InsPost base w A c l i x) := by
  obtain ⟨g, c', cur, he, hbg, hB, hn, hm, hs, ht⟩ := own_form h (by omega)
  injection he with e1 _ e3
  subst e1 e3
  have hne : vb ≠ g := fun e => hvA _ rfl e.symm
  obtain ⟨n, hnn⟩ : ∃ n, n = l.length := ⟨_, rfl⟩
  rw [← hnn] at ht hi hc hl hn
  have hdl : ((l.drop i).flatMap encPr).length = (n - i) * 2 := by rw [flat_len encPr encPr_len, List.length_drop, hnn]
  have hrow := ins_row (l := l) (cur := cur) (c := c) (i := i) (x := x) hs (by rw [← hnn]; exact ht) (by omega) (by omega) _ _ rfl rfl
  obtain ⟨cur1, hcur1⟩ : ∃ y, y = (cur.toList.take ((i + 1) * 2) ++ (l.drop i).flatMap encPr ++ cur.toList.drop ((i + 1) * 2 + ((l.drop i).flatMap encPr).length)).toArray := ⟨_, rfl⟩
  rw [← hcur1] at hrow
  obtain ⟨cur2, hcur2⟩ : ∃ y, y = (cur1.toList.take (i * 2) ++ encPr x ++ cur1.toList.drop (i * 2 + (encPr x).length)).toArray := ⟨_, rfl⟩
  rw [← hcur2] at hrow
  have hov : ∀ lb cb, (callFunc 95 #[.slice (some ⟨vb, 0, none⟩) 1 1, .slice (some ⟨g, (i + 1) * 2, none⟩) lb cb]).run Try.prog w = .ok (.value (.bool false)) w := fun lb cb => by
    rw [run_callFunc_extern Try.func95 (by kernel_rfl) (by kernel_rfl) (by kernel_rfl) (e := Extern.SlicesOverlaps.overlaps #[44, 44] #[4]) (by kernel_rfl),
      Lib.run_overlaps_apart w 44 4 55 Try.underlying44 2 sizeOf_pair ⟨vb, 0, none⟩ ⟨g, (i + 1) * 2, none⟩ 1 1 lb cb hne _ _ _ _ (shape_blk hv) (shape_blk hB) (by rw [hs]; omega) (hv.free 0) (hv.free _)]
    rfl
  have hcp1 : ∀ ty dc sc, (Builtin.copy_ #[44, 44] ty #[.slice (some ⟨g, (i + 1) * 2, none⟩) (n - i) dc, .slice (some ⟨g, i * 2, none⟩) (n + 1 - i) sc]).run Try.prog w.drew = .ok (.int .i64 ((n - i : Nat) : Int)) (w.drew.setRow g cur1) := fun ty dc sc => by
    rw [hcur1]
    exact run_copy_k w.drew _ _ ty 55 g ((i + 1) * 2) _ _ ⟨g, i * 2, none⟩ _ _ cur 55 _ 2 (n - i) Try.underlying44 pair_size hB (by simp only [Nat.min_def]; split <;> omega) hdl
      (fun j v hj => by
        rw [add_none]
        have h2 : (l.flatMap encPr)[i * 2 + j]? = some v := by
          have e : l.flatMap encPr = (l.take i).flatMap encPr ++ (l.drop i).flatMap encPr := by rw [← List.flatMap_append, List.take_append_drop]
          rw [e, List.getElem?_append_right (by rw [flat_len encPr encPr_len, List.length_take]; omega), flat_len encPr encPr_len, List.length_take, Nat.min_eq_left (by omega)]
          rw [show i * 2 + j - i * 2 = j from by omega]
          exact hj
        have hC := h.cells (g := g) rfl _ _ h2
        rwa [add_none, Nat.zero_add] at hC)
      (by rw [hdl, hs]; omega) (encPr_one _)
  have hB1 : Blk (w.drew.setRow g cur1) g 55 cur1 := (show Blk w.drew g 55 cur from hB).setRow cur1
  have hv1 : Blk (w.drew.setRow g cur1) vb 55 #[.int .i64 x.at_, .int .i64 x.v] := by
    unfold Blk World.setRow
    simp only [Array.getElem?_modify]
    rw [if_neg (fun e => hne e.symm)]
    exact hv
  have hcp2 : ∀ ty dc, (Builtin.copy_ #[44, 44] ty #[.slice (some ⟨g, i * 2, none⟩) (n + 1 - i) dc, .slice (some ⟨vb, 0, none⟩) 1 1]).run Try.prog (w.drew.setRow g cur1) = .ok (.int .i64 ((1 : Nat) : Int)) ((w.drew.setRow g cur1).setRow g cur2) := fun ty dc => by
    rw [hcur2]
    exact run_copy_k _ _ _ ty 55 g (i * 2) _ _ ⟨vb, 0, none⟩ _ _ cur1 55 (encPr x) 2 1 Try.underlying44 pair_size hB1 (by simp only [Nat.min_def]; split <;> omega) rfl
      (fun j v hj => by rw [add_none, Nat.zero_add, hv1.cell]; simpa [encPr] using hj)
      (by rw [encPr_len, hrow.1]; omega) (by simp [encPr, Value.oneCell'])
  have hgr : w.grownBy ((w.drew.setRow g cur1).setRow g cur2) (some g) :=
    ⟨rfl, rfl, rfl, by simp [World.setRow], fun k _ hk => by
      have hkg : g ≠ k := fun e => hk (by rw [e])
      simp only [World.setRow, Array.getElem?_modify]
      rw [if_neg hkg, if_neg hkg]
      rfl⟩
  have HEND := Lib.hid (show InsPost base w (some ⟨g, 0, none⟩) c l i x (.returned (.slice (some ⟨g, 0, none⟩) (n + 1) c)) ((w.drew.setRow g cur1).setRow g cur2) from by
    refine ⟨_, _, by rw [← hnn], ?_, hgr, fun b hb => .inl hb⟩
    unfold PRow
    rw [ins_len (by omega)]
    exact own_of (by rw [flat_len encPr encPr_len, ins_len (by omega)]) hbg (hB1.setRow cur2) (by omega) hm hrow.2.1 hrow.2.2)
  have hz2 : ¬ ((i : Int) = (n : Int)) := by omega
  have hz3 : ¬ (c : Int) < (n : Int) + 1 := by omega
  have hw1 : IntKind.i64.wrap ((i : Int) + 1) = (i : Int) + 1 := by rw [IntKind.wrap_i64]; omega
  have hw2 : IntKind.i64.wrap ((n : Int) + 1) = (n : Int) + 1 := by rw [IntKind.wrap_i64]; omega
  have hb1 : (0 : Int) ≤ (i : Int) + 1 := by omega
  have hin : (i : Int) ≤ (n : Int) := by omega
  have hin2 : (i : Int) + 1 ≤ (n : Int) + 1 := by omega
  have htn : ((i : Int) + 1).toNat = i + 1 := by omega
  have htn2 : ((n : Int) + 1).toNat = n + 1 := by omega
  have hb2 : ¬ (c = i + 1) := by omega
  have hb3 : (i : Int) ≤ (n : Int) + 1 := by omega
  have hb4 : ¬ (c = i) := by omega
  have hb5 : (n : Int) + 1 ≤ (c : Int) := by omega
  have hb6 : (0 : Int) ≤ (n : Int) + 1 := by omega
  have HC1 := Lib.hid hcp1
  have HC2 := Lib.hid hcp2
  unfold maxLen at hm
  rw [← hnn]
  clear h hv hB hs ht hrow hcur1 hcur2 hcp1 hcp2 hB1 hv1 hgr hdl hnn
  go_enter Try.func83, Try.ntmps83
  go_wp2_with (simp only [hov])
  refine wp_region_held_drew (S := fun _ => True) (by kernel_rfl) ?_ (fun hbr => ?_)
  · trivial
  refine tkA 0 ?_
  refine tkA 1 ?_
  refine tkA 2 ?_
  refine tkA 3 ?_
  refine tkA 4 ?_
  refine tkA 5 ?_
  refine tkA 6 ?_
  refine tkA 7 ?_
  refine stA 8 (fun K hK => ?_)
  refine step_copy_eqn rfl _ _ 44 44 rfl (.slice (some ⟨g, (i + 1) * 2, none⟩) (n - i) (c - (i + 1))) (.slice (some ⟨g, i * 2, none⟩) (n + 1 - i) (c - i)) rfl rfl (HC1.out _ (c - (i + 1)) (c - i)) ?_
  refine hK.out _ _ ?_ (fun hbr8 => ?_)
  · trivial
  clear hK K hbr
  try simp only [Act.put, List.setIfInBounds_toArray, List.set_cons_zero, List.set_cons_succ]
  refine wpAnyH_done (by kernel_rfl) ?_ _
  have hc2 := HC2.out
  go_wp2
  go_ret
  exact HEND.out
end Go.Proofs.Ytngimbfojccikaa
namespace Go.Proofs.Ytngimbfojccikaa
set_option linter.unusedSimpArgs false
open Go Go.RowKit
set_option linter.unusedVariables false
set_option maxRecDepth 100000

theorem flat_split (l : List Pr) (i : Nat) : l.flatMap encPr = (l.take i).flatMap encPr ++ (l.drop i).flatMap encPr := by rw [← List.flatMap_append, List.take_append_drop]
theorem ins_row3 {l : List Pr} {row : Array Value} {G i : Nat} {x : Pr} (hs : row.size = G * 2) (ht : row.toList.take (i * 2) = (l.take i).flatMap encPr) (hi : i < l.length) (hG : l.length + 1 ≤ G) (row2 row3 : Array Value)
    (h1 : row2 = (row.toList.take (i * 2) ++ encPr x ++ row.toList.drop (i * 2 + (encPr x).length)).toArray)
    (h2 : row3 = (row2.toList.take ((i + 1) * 2) ++ (l.drop i).flatMap encPr ++ row2.toList.drop ((i + 1) * 2 + ((l.drop i).flatMap encPr).length)).toArray) :
    row2.size = G * 2 ∧ row3.size = G * 2 ∧ row3.toList.take ((l.length + 1) * 2) = (l.take i ++ x :: l.drop i).flatMap encPr := by
  have hdl : ((l.drop i).flatMap encPr).length = (l.length - i) * 2 := by rw [flat_len encPr encPr_len, List.length_drop]
  have htl : ((l.take i).flatMap encPr).length = i * 2 := by rw [flat_len encPr encPr_len, List.length_take]; omega
  have hl2 : row2.size = G * 2 := by
    rw [h1, ht]
    simp only [List.size_toArray, List.length_append, htl, encPr_len, List.length_drop, Array.length_toList, hs]
    omega
  have h2t : row2.toList.take ((i + 1) * 2) = (l.take i).flatMap encPr ++ encPr x := by
    rw [h1, ht]
    rw [List.take_append_of_le_length (by simp only [List.length_append, htl, encPr_len]; omega), List.take_of_length_le (by simp only [List.length_append, htl, encPr_len]; omega)]
  refine ⟨hl2, ?_, ?_⟩
  · rw [h2, h2t]
    simp only [List.size_toArray, List.length_append, htl, encPr_len, hdl, List.length_drop, Array.length_toList, hl2]
    omega
  · rw [h2, h2t, List.flatMap_append, List.flatMap_cons]
    rw [show ((l.take i).flatMap encPr ++ encPr x ++ (l.drop i).flatMap encPr ++ row2.toList.drop ((i + 1) * 2 + ((l.drop i).flatMap encPr).length)) = ((l.take i).flatMap encPr ++ (encPr x ++ (l.drop i).flatMap encPr)) ++ row2.toList.drop ((i + 1) * 2 + ((l.drop i).flatMap encPr).length) from by simp only [List.append_assoc]]
    rw [List.take_append_of_le_length (by simp only [List.length_append, htl, encPr_len, hdl]; omega), List.take_of_length_le (by simp only [List.length_append, htl, encPr_len, hdl]; omega)]

set_option maxHeartbeats 4000000 in
theorem ins_grow (base : Nat) (A : Option Addr) (c : Nat) (l : List Pr) (i : Nat) (x : Pr) (vb : Nat) (w : World) (h : PRow w base A c l) (hbs : base ≤ w.heap.size) (hl : l.length ≤ 1000) (hi : i < l.length) (hc : c = l.length) (hv : Blk w vb 55 #[.int .i64 x.at_, .int .i64 x.v]) (hvA : ∀ b, A = some b → b.block ≠ vb) :
    Calls Try.prog 83 #[.slice A l.length c, .int .i64 (i : Int), .slice (some ⟨vb, 0, none⟩) 1 1] w (InsPost base w A c l i x) := by
  obtain ⟨g, c', cur, he, hbg, hB, hn, hm, hs, ht⟩ := own_form h (by omega)
  injection he with e1 _ e3
  subst e1 e3
  obtain ⟨i0, hi0, hz0, hz1, hz2⟩ := info_parts clone_pair_info
  obtain ⟨n, hnn⟩ : ∃ n, n = l.length := ⟨_, rfl⟩
  have hcn : c = n := by omega
  subst hcn
  rw [← hnn] at ht hi hl hn
  have hdl : ((l.drop i).flatMap encPr).length = (c - i) * 2 := by rw [flat_len encPr encPr_len, List.length_drop, hnn]
  have htl : ((l.take i).flatMap encPr).length = i * 2 := by rw [flat_len encPr encPr_len, List.length_take]; omega
  have hcell : ∀ j v, (l.flatMap encPr)[j]? = some v → w.cell? ⟨g, j, none⟩ = some v := fun j v hj => by
    have hC := h.cells (g := g) rfl _ _ hj
    rwa [add_none, Nat.zero_add] at hC
  have hold : (Builtin.firstCells i0.size i (.slice (some ⟨g, 0, none⟩) i c)).run Try.prog w.drew = .ok ((l.take i).flatMap encPr).toArray w.drew := by
    rw [hz1]
    exact run_firstCells_some w.drew 2 i ⟨g, 0, none⟩ i c ((l.take i).flatMap encPr) (by rw [htl]) (fun j v hj => by
      rw [add_none, Nat.zero_add]
      refine hcell j v ?_
      rw [flat_split l i, List.getElem?_append_left (List.getElem?_eq_some_iff.1 hj).1]
      exact hj)
  obtain ⟨G, hG⟩ : ∃ G, G = grownCap w (c + 1) c 55 := ⟨_, rfl⟩
  have hGn : c + 1 ≤ G := by rw [hG]; exact grownCap_ge w _ _ _
  have hG63 : G ≤ maxLen := by rw [hG]; exact grownCap_le_maxLen w (c + 1) c 55 (by unfold maxLen; omega)
  obtain ⟨ROW, hROW⟩ : ∃ ROW : Array Value, ROW = ((l.take i).flatMap encPr).toArray ++ Builtin.zeroCells (Value.agg #[.int .i64 0, .int .i64 0]).cells (c + 1 - i) ++ Builtin.zeroCells (Value.agg #[.int .i64 0, .int .i64 0]).cells (G - (c + 1)) := ⟨_, rfl⟩
  obtain ⟨W1, hW1⟩ : ∃ W1, W1 = w.drew.alloc (.cells ROW 55) := ⟨_, rfl⟩
  have hkk : (c : Int) + 1 - (i : Int) = ((c + 1 - i : Nat) : Int) := by omega
  have hrz : ∀ ty, (Builtin.append_ #[44, 3] ty #[.slice (some ⟨g, 0, none⟩) i c, .int .i64 ((c : Int) + 1 - (i : Int))]).run Try.prog w = .ok (.slice (some ⟨w.heap.size, 0, none⟩) (c + 1) G) W1 := fun ty => by
    have h := Lib.run_append_grow_zeros w 44 3 ty 55 i0 _ .i64 .i64 Try.underlying44 Try.underlying3 hi0 hz0 (some ⟨g, 0, none⟩) i c _ hold (c + 1 - i) (by omega) (by omega) (by omega) (by omega) (by rw [hz2]; omega)
      (by rw [hz2, show i + (c + 1 - i) = c + 1 from by omega]; exact growslice_fits (by omega) (by omega))
    rw [show i + (c + 1 - i) = c + 1 from by omega, ← hG, ← hROW, ← hW1] at h
    rw [hkk]
    exact h
  have hRs : ROW.size = G * 2 := by
    rw [hROW]
    simp only [Array.size_append, List.size_toArray, htl, Builtin.zeroCells, Array.size_map, Array.size_range, Value.cells, List.length_cons, List.length_nil]
    omega
  have hRt : ROW.toList.take (i * 2) = (l.take i).flatMap encPr := by
    rw [hROW]
    simp only [Array.toList_append, List.append_assoc]
    rw [List.take_append_of_le_length (by simp only [htl]; omega), List.take_of_length_le (by simp only [htl]; omega)]
  have hrow := ins_row3 (l := l) (row := ROW) (G := G) (i := i) (x := x) hRs hRt (by omega) (by omega) _ _ rfl rfl
  obtain ⟨row2, hrow2⟩ : ∃ y, y = (ROW.toList.take (i * 2) ++ encPr x ++ ROW.toList.drop (i * 2 + (encPr x).length)).toArray := ⟨_, rfl⟩
  rw [← hrow2] at hrow
  obtain ⟨row3, hrow3⟩ : ∃ y, y = (row2.toList.take ((i + 1) * 2) ++ (l.drop i).flatMap encPr ++ row2.toList.drop ((i + 1) * 2 + ((l.drop i).flatMap encPr).length)).toArray := ⟨_, rfl⟩
  rw [← hrow3] at hrow
  have hglt : g < w.heap.size := hB.lt
  have hvlt : vb < w.heap.size := hv.lt
  have hN1 : Blk W1 w.heap.size 55 ROW := hW1 ▸ Blk.new_ w.drew 55 ROW w.heap.size rfl
  have hb1 : Below w.heap.size w W1 := hW1 ▸ ((Below.refl _ w).drew.alloc (Nat.le_refl _) _)
  have hcpA : ∀ ty dc, (Builtin.copy_ #[44, 44] ty #[.slice (some ⟨w.heap.size, i * 2, none⟩) (c + 1 - i) dc, .slice (some ⟨vb, 0, none⟩) 1 1]).run Try.prog W1 = .ok (.int .i64 ((1 : Nat) : Int)) (W1.setRow w.heap.size row2) := fun ty dc => by
    rw [hrow2]
    exact run_copy_k _ _ _ ty 55 w.heap.size (i * 2) _ _ ⟨vb, 0, none⟩ _ _ ROW 55 (encPr x) 2 1 Try.underlying44 pair_size hN1 (by simp only [Nat.min_def]; split <;> omega) rfl
      (fun j v hj => by rw [add_none, Nat.zero_add, (hv.keep hb1).cell]; simpa [encPr] using hj)
      (by rw [encPr_len, hRs]; omega) (by simp [encPr, Value.oneCell'])
  obtain ⟨W2, hW2⟩ : ∃ y, y = W1.setRow w.heap.size row2 := ⟨_, rfl⟩
  have hN2 : Blk W2 w.heap.size 55 row2 := hW2 ▸ hN1.setRow row2
  have hb2 : Below w.heap.size w W2 := hW2 ▸ below_setRow' hb1 (Nat.le_refl _) row2
  rw [← hW2] at hcpA
  have hcpB : ∀ ty dc sc, (Builtin.copy_ #[44, 44] ty #[.slice (some ⟨w.heap.size, (i + 1) * 2, none⟩) (c - i) dc, .slice (some ⟨g, i * 2, none⟩) (c - i) sc]).run Try.prog W2.drew = .ok (.int .i64 ((c - i : Nat) : Int)) (W2.drew.setRow w.heap.size row3) := fun ty dc sc => by
    rw [hrow3]
    exact run_copy_k W2.drew _ _ ty 55 w.heap.size ((i + 1) * 2) _ _ ⟨g, i * 2, none⟩ _ _ row2 55 _ 2 (c - i) Try.underlying44 pair_size hN2 (by simp) hdl
      (fun j v hj => by
        rw [add_none]
        show W2.cell? ⟨g, i * 2 + j, none⟩ = some v
        rw [hb2.cell (p := ⟨g, i * 2 + j, none⟩) hglt]
        refine hcell _ v ?_
        rw [flat_split l i, List.getElem?_append_right (by rw [htl]; omega), htl, show i * 2 + j - i * 2 = j from by omega]
        exact hj)
      (by rw [hdl, hrow.1]; omega) (encPr_one _)
  obtain ⟨W3, hW3⟩ : ∃ y, y = W2.drew.setRow w.heap.size row3 := ⟨_, rfl⟩
  have hN3 : Blk W3 w.heap.size 55 row3 := hW3 ▸ (show Blk W2.drew w.heap.size 55 row2 from hN2).setRow row3
  have hb3 : Below w.heap.size w W3 := hW3 ▸ below_setRow' hb2.drew (Nat.le_refl _) row3
  rw [← hW3] at hcpB
  have HEND := Lib.hid (show InsPost base w (some ⟨g, 0, none⟩) c l i x (.returned (.slice (some ⟨w.heap.size, 0, none⟩) (c + 1) G)) W3 from by
    refine ⟨_, _, by rw [← hnn], ?_, ⟨hb3.os, hb3.tape, hb3.output, hb3.size, fun k hk _ => hb3.block k hk⟩, fun b hb => .inr ?_⟩
    · unfold PRow
      rw [ins_len (by omega)]
      exact own_of (by rw [flat_len encPr encPr_len, ins_len (by omega)]) hbs hN3 (by omega) hG63 hrow.2.1 hrow.2.2
    · injection hb with hb
      subst hb
      exact Nat.le_refl _)
  have hz2' : ¬ ((i : Int) = (c : Int)) := by omega
  have hz3 : (c : Int) < (c : Int) + 1 := by omega
  have hw1 : IntKind.i64.wrap ((i : Int) + 1) = (i : Int) + 1 := by rw [IntKind.wrap_i64]; omega
  have hw2 : IntKind.i64.wrap ((c : Int) + 1) = (c : Int) + 1 := by rw [IntKind.wrap_i64]; omega
  have hw3 : IntKind.i64.wrap ((c : Int) + 1 - (i : Int)) = (c : Int) + 1 - (i : Int) := by rw [IntKind.wrap_i64]; omega
  have hb1' : (0 : Int) ≤ (i : Int) + 1 := by omega
  have hin : (i : Int) ≤ (c : Int) := by omega
  have htn : ((i : Int) + 1).toNat = i + 1 := by omega
  have hGi : ¬ (G = i) := by omega
  have hGi1 : ¬ (G = i + 1) := by omega
  have hci : ¬ (c = i) := by omega
  have hb4 : (i : Int) ≤ (c : Int) + 1 := by omega
  have hb5 : (i : Int) + 1 ≤ (c : Int) + 1 := by omega
  have HRZ := Lib.hid hrz
  have HCA := Lib.hid hcpA
  have HCB := Lib.hid hcpB
  unfold maxLen at hm hG63
  clear h hv hB hs ht hrow hrow2 hrow3 hcpA hcpB hb1 hb2 hb3 hN1 hN2 hN3 hW1 hW2 hW3 hdl htl hRs hRt hROW hold hcell hG hkk hrz
  rw [← hnn]
  clear hnn hc hn
  go_enter Try.func83, Try.ntmps83
  have ha := HCA.out
  go_wp2_with (at_builtin; refine Lib.wpList_append_run _ rfl _ _ _ _ rfl _ _ rfl rfl _ _ (HRZ.out _) ?_)
  refine wp_region_held_drew (S := fun _ => True) (by kernel_rfl) ?_ (fun hbr => ?_)
  · trivial
  refine tkA 0 ?_
  refine tkA 1 ?_
  refine tkA 2 ?_
  refine tkA 3 ?_
  refine tkA 4 ?_
  refine tkA 5 ?_
  refine tkA 6 ?_
  refine tkA 7 ?_
  refine stA 8 (fun K hK => ?_)
  refine step_copy_eqn rfl _ _ 44 44 rfl (.slice (some ⟨w.heap.size, (i + 1) * 2, none⟩) (c - i) (G - (i + 1))) (.slice (some ⟨g, i * 2, none⟩) (c - i) (c - i)) rfl rfl (HCB.out _ (G - (i + 1)) (c - i)) ?_
  refine hK.out _ _ ?_ (fun hbr8 => ?_)
  · trivial
  clear hK K hbr
  try simp only [Act.put, List.setIfInBounds_toArray, List.set_cons_zero, List.set_cons_succ]
  refine wpAnyH_done (by kernel_rfl) ?_ _
  go_wp2
  go_ret
  exact HEND.out

/-- Insert, of one pair. -/
theorem insert_any (base : Nat) (A : Option Addr) (c : Nat) (l : List Pr) (i : Nat) (x : Pr) (vb : Nat) (w : World) (h : PRow w base A c l) (hbs : base ≤ w.heap.size) (hl : l.length ≤ 1000) (hi : i ≤ l.length) (hv : Blk w vb 55 #[.int .i64 x.at_, .int .i64 x.v]) (hvA : ∀ b, A = some b → b.block ≠ vb) :
    Calls Try.prog 83 #[.slice A l.length c, .int .i64 (i : Int), .slice (some ⟨vb, 0, none⟩) 1 1] w (InsPost base w A c l i x) := by
  rcases Nat.lt_or_ge i l.length with h1 | h1
  · rcases Nat.lt_or_ge l.length c with h2 | h2
    · exact ins_shift base A c l i x vb w h hl h1 h2 hv hvA
    · refine ins_grow base A c l i x vb w h hbs hl h1 ?_ hv hvA
      obtain ⟨g, c', cur, he, _, _, hn, _⟩ := own_form h (by omega)
      injection he with _ _ e3
      subst e3
      omega
  · obtain rfl : i = l.length := by omega
    exact ins_end base A c l x vb w h hbs hl hv
end Go.Proofs.Ytngimbfojccikaa
