/- slices.Insert at []api.Pair, of one pair. -/
import Derived.Test.YtmcbnpeihedcaaaStBack
import Derived.Lib.AppendZerosOnto
import Derived.Lib.Overlaps
import Derived.Laws.Externs
import Derived.Laws.NewBlocks
namespace Go.Proofs.Ytmcbnpeihedcaaa
set_option linter.unusedSimpArgs false
open Go Go.RowKit
set_option linter.unusedVariables false
set_option maxRecDepth 100000

/-- What Insert hands back: the row with one pair more, in its place or in a new one. -/
def InsPost (base : Nat) (W : World) (A : Option Addr) (c : Nat) (l : List Pr) (i : Nat) (x : Pr) (e : Ending) (w' : World) : Prop :=
  ∃ A' c', e = .returned (.slice A' (l.length + 1) c') ∧ PRow w' base A' c' (l.take i ++ x :: l.drop i) ∧ W.grownBy w' (Value.slice A l.length c).ownBlock ∧ ∀ b, A' = some b → A = some b ∨ W.heap.size ≤ b.block

theorem ins_len {l : List Pr} {i : Nat} (hi : i ≤ l.length) (x : Pr) : (l.take i ++ x :: l.drop i).length = l.length + 1 := by
  simp; omega

set_option maxHeartbeats 4000000 in
theorem ins_end (base : Nat) (A : Option Addr) (c : Nat) (l : List Pr) (x : Pr) (vb : Nat) (w : World) (h : PRow w base A c l) (hb : base ≤ w.heap.size) (hl : l.length ≤ 1000) (hv : Blk w vb 34 #[.int .i64 x.at_, .int .i64 x.v]) :
    Calls Try.prog 68 #[.slice A l.length c, .int .i64 (l.length : Int), .slice (some ⟨vb, 0, none⟩) 1 1] w (InsPost base w A c l l.length x) := by
  obtain ⟨i0, hi0, hz0, hz1, hz2⟩ := info_parts clone_pair_info
  have HOWN := Lib.hid h
  have hform : (A = none ∧ c = 0 ∧ l.length = 0) ∨ ∃ g, A = some ⟨g, 0, none⟩ ∧ l.length ≤ c ∧ c ≤ maxLen := by
    rcases h.2 with ⟨e, h0⟩ | ⟨g, cap, cur, e, _, _, h3, h4, _⟩
    · injection e with e1 e2 e3
      exact .inl ⟨e1, e3, h0⟩
    · injection e with e1 _ e3
      subst e3
      exact .inr ⟨g, e1, h3, h4⟩
  have HNEWS := Lib.hid (show ∀ j u, ([.int .i64 x.at_, .int .i64 x.v] : List Value)[j]? = some u → w.cell? ((⟨vb, 0, none⟩ : Addr).add j) = some u from by
    intro j u hu
    rw [add_none, Nat.zero_add, hv.cell]
    simpa using hu)
  have HEND := Lib.hid (fun v' w' (ho : w'.ownsRow base 34 2 v' (l.length + 1) (l.flatMap encPr ++ [.int .i64 x.at_, .int .i64 x.v])) (hg : w.grownBy w' (Value.slice A l.length c).ownBlock) (hat : v'.ownBlock = (Value.slice A l.length c).ownBlock ∨ v'.ownBlock = some w.heap.size) => (show InsPost base w A c l l.length x (.returned v') w' from by
    obtain ⟨g, cap, cur, rfl, _⟩ := own_form ho (by omega)
    have hrow : PRow w' base (some ⟨g, 0, none⟩) cap (l.take l.length ++ x :: l.drop l.length) := by
      unfold PRow
      rw [ins_len (Nat.le_refl _), List.take_length, List.drop_length, List.flatMap_append]
      exact ho
    refine ⟨_, _, rfl, hrow, hg, fun b hb => ?_⟩
    injection hb with hb
    subst hb
    rcases hat with e | e
    · refine .inl ?_
      simp only [Value.ownBlock] at e
      rcases hform with ⟨rfl, _⟩ | ⟨g', rfl, _⟩
      · cases e
      · simp only [Option.some.injEq] at e; rw [e]
    · simp only [Value.ownBlock, Option.some.injEq] at e
      exact .inr (by show w.heap.size ≤ g; omega)))
  obtain ⟨n, hn⟩ : ∃ n, n = l.length := ⟨_, rfl⟩
  have HOWN' : Hid (w.ownsRow base 34 2 (.slice A n c) n (l.flatMap encPr)) := by rw [hn]; exact HOWN.out
  rw [← hn] at HEND hl hform ⊢
  clear h hn HOWN hv
  rcases hform with ⟨rfl, rfl, h0⟩ | ⟨g, rfl, h1, h2⟩
  · subst h0
    go_enter Try.func68, Try.ntmps68
    go_wp2_with (at_builtin; refine wpList_append_own_at _ rfl (.tmp 23) (.tmp 24) _ rfl base 34 i0 _ 2 16 Try.underlying25 hi0 hz0 hz1 hz2 rfl (by omega) (.slice none 0 0) 0 _ rfl HOWN'.out ⟨vb, 0, none⟩ 1 1 _ rfl rfl HNEWS.out (by simp [Value.oneCell']) (by unfold maxLen; omega) (by omega) hb ?_; intro v1 w1 hown1 hgrow _ hat; have HE := Lib.hid (HEND.out v1 w1 hown1 hgrow hat); clear hown1 hgrow hat)
    go_ret
    exact HE.out
  · by_cases hc : c = n
    · subst hc
      go_enter Try.func68, Try.ntmps68
      go_wp2_with (at_builtin; refine wpList_append_own_at _ rfl (.tmp 23) (.tmp 24) _ rfl base 34 i0 _ 2 16 Try.underlying25 hi0 hz0 hz1 hz2 rfl (by omega) (.slice (some ⟨g, 0, none⟩) c c) c _ rfl HOWN'.out ⟨vb, 0, none⟩ 1 1 _ rfl rfl HNEWS.out (by simp [Value.oneCell']) (by unfold maxLen; omega) (by omega) hb ?_; intro v1 w1 hown1 hgrow _ hat; have HE := Lib.hid (HEND.out v1 w1 hown1 hgrow hat); clear hown1 hgrow hat)
      go_ret
      exact HE.out
    · unfold maxLen at h2
      have hc1 : (n : Int) ≤ (n : Int) := by omega
      go_enter Try.func68, Try.ntmps68
      go_wp2_with (at_builtin; refine wpList_append_own_at _ rfl (.tmp 23) (.tmp 24) _ rfl base 34 i0 _ 2 16 Try.underlying25 hi0 hz0 hz1 hz2 rfl (by omega) (.slice (some ⟨g, 0, none⟩) n c) n _ rfl HOWN'.out ⟨vb, 0, none⟩ 1 1 _ rfl rfl HNEWS.out (by simp [Value.oneCell']) (by unfold maxLen; omega) (by omega) hb ?_; intro v1 w1 hown1 hgrow _ hat; have HE := Lib.hid (HEND.out v1 w1 hown1 hgrow hat); clear hown1 hgrow hat)
      go_ret
      exact HE.out

theorem shape_blk {w : World} {g : Nat} {t : TypeId} {cs : Array Value} (h : Blk w g t cs) : w.shape? g = some (t, cs.size) := by
  unfold Blk at h
  simp [World.shape?, h]
theorem pair_size : (Try.prog.info? 34).map (·.size) = some 2 := by kernel_rfl
theorem sizeOf_pair : ∀ w, (Go.sizeOf 34).run Try.prog w = .ok 2 w := fun w => by
  obtain ⟨i0, hi0, hz0, hz1, hz2⟩ := info_parts clone_pair_info
  simp [sizeOf, typeInfo, hi0, hz1]

/-- The cells of the row behind the two copies. -/
theorem ins_row {l : List Pr} {cur : Array Value} {c i : Nat} {x : Pr} (hs : cur.size = c * 2) (ht : cur.toList.take (l.length * 2) = l.flatMap encPr) (hi : i < l.length) (hc : l.length < c) (cur1 cur2 : Array Value)
    (h1 : cur1 = (cur.toList.take ((i + 1) * 2) ++ (l.drop i).flatMap encPr ++ cur.toList.drop ((i + 1) * 2 + ((l.drop i).flatMap encPr).length)).toArray)
    (h2 : cur2 = (cur1.toList.take (i * 2) ++ encPr x ++ cur1.toList.drop (i * 2 + (encPr x).length)).toArray) :
    cur1.size = c * 2 ∧ cur2.size = c * 2 ∧ cur2.toList.take ((l.length + 1) * 2) = (l.take i ++ x :: l.drop i).flatMap encPr := by
  have hdl : ((l.drop i).flatMap encPr).length = (l.length - i) * 2 := by rw [flat_len encPr encPr_len, List.length_drop]
  have hl1 : cur1.toList.length = c * 2 := by
    rw [h1]
    simp only [List.length_append, List.length_take, List.length_drop, Array.length_toList, hdl, hs]
    omega
  have htk : cur.toList.take (i * 2) = (l.take i).flatMap encPr := by
    have e : cur.toList.take (i * 2) = (cur.toList.take (l.length * 2)).take (i * 2) := by rw [List.take_take, Nat.min_eq_left (by omega)]
    rw [e, ht]
    have e2 : l.flatMap encPr = (l.take i).flatMap encPr ++ (l.drop i).flatMap encPr := by rw [← List.flatMap_append, List.take_append_drop]
    rw [e2, List.take_append_of_le_length (by rw [flat_len encPr encPr_len, List.length_take]; omega), List.take_of_length_le (by rw [flat_len encPr encPr_len, List.length_take]; omega)]
  have hc1t : cur1.toList.take (i * 2) = (l.take i).flatMap encPr := by
    rw [h1]
    simp only [List.append_assoc]
    rw [List.take_append_of_le_length (by simp [hs]; omega), List.take_take, Nat.min_eq_left (by omega), htk]
  have hc1d : cur1.toList.drop (i * 2 + 2) = (l.drop i).flatMap encPr ++ cur.toList.drop ((i + 1) * 2 + ((l.drop i).flatMap encPr).length) := by
    rw [h1]
    simp only [List.append_assoc]
    rw [List.drop_append_of_le_length (by simp [hs]; omega), List.drop_of_length_le (by simp [hs]; omega), List.nil_append]
  refine ⟨by simpa using hl1, ?_, ?_⟩
  · rw [h2, hc1t, encPr_len, hc1d]
    simp only [List.size_toArray, List.length_append, encPr_len, hdl, List.length_drop, Array.length_toList, hs, flat_len encPr encPr_len, List.length_take]
    omega
  · rw [h2, hc1t, encPr_len, hc1d]
    rw [List.flatMap_append, List.flatMap_cons]
    rw [show ((l.take i).flatMap encPr ++ encPr x ++ ((l.drop i).flatMap encPr ++ cur.toList.drop ((i + 1) * 2 + ((l.drop i).flatMap encPr).length))) = ((l.take i).flatMap encPr ++ (encPr x ++ (l.drop i).flatMap encPr)) ++ cur.toList.drop ((i + 1) * 2 + ((l.drop i).flatMap encPr).length) from by simp only [List.append_assoc]]
    rw [List.take_append_of_le_length (by simp only [List.length_append, flat_len encPr encPr_len, encPr_len, List.length_take, List.length_drop]; omega), List.take_of_length_le (by simp only [List.length_append, flat_len encPr encPr_len, encPr_len, List.length_take, List.length_drop]; omega)]

set_option maxHeartbeats 4000000 in
theorem ins_shift (base : Nat) (A : Option Addr) (c : Nat) (l : List Pr) (i : Nat) (x : Pr) (vb : Nat) (w : World) (h : PRow w base A c l) (hl : l.length ≤ 1000) (hi : i < l.length) (hc : l.length < c) (hv : Blk w vb 34 #[.int .i64 x.at_, .int .i64 x.v]) (hvA : ∀ b, A = some b → b.block ≠ vb) :
    Calls Try.prog 68 #[.slice A l.length c, .int .i64 (i : Int), .slice (some ⟨vb, 0, none⟩) 1 1] w (InsPost base w A c l i x) := by
  obtain ⟨g, c', cur, he, hbg, hB, hn, hm, hs, ht⟩ := own_form h (by omega)
  injection he with e1 _ e3
  subst e1 e3
  have hne : vb ≠ g := fun e => hvA _ rfl e.symm
  obtain ⟨n, hnn⟩ : ∃ n, n = l.length := ⟨_, rfl⟩
  rw [← hnn] at ht hi hc hl hn
  have hdl : ((l.drop i).flatMap encPr).length = (n - i) * 2 := by rw [flat_len encPr encPr_len, List.length_drop, hnn]
  have hrow := ins_row (l := l) (cur := cur) (c := c) (i := i) (x := x) hs (by rw [← hnn]; exact ht) (by omega) (by omega) _ _ rfl rfl
  obtain ⟨cur1, hcur1⟩ : ∃ y, y = (cur.toList.take ((i + 1) * 2) ++ (l.drop i).flatMap encPr ++ cur.toList.drop ((i + 1) * 2 + ((l.drop i).flatMap encPr).length)).toArray := ⟨_, rfl⟩
  rw [← hcur1] at hrow
  obtain ⟨cur2, hcur2⟩ : ∃ y, y = (cur1.toList.take (i * 2) ++ encPr x ++ cur1.toList.drop (i * 2 + (encPr x).length)).toArray := ⟨_, rfl⟩
  rw [← hcur2] at hrow
  have hov : ∀ lb cb, (callFunc 79 #[.slice (some ⟨vb, 0, none⟩) 1 1, .slice (some ⟨g, (i + 1) * 2, none⟩) lb cb]).run Try.prog w = .ok (.value (.bool false)) w := fun lb cb => by
    rw [run_callFunc_extern Try.func79 (by kernel_rfl) (by kernel_rfl) (by kernel_rfl) (e := Extern.SlicesOverlaps.overlaps #[25, 25] #[4]) (by kernel_rfl),
      Lib.run_overlaps_apart w 25 4 34 Try.underlying25 2 sizeOf_pair ⟨vb, 0, none⟩ ⟨g, (i + 1) * 2, none⟩ 1 1 lb cb hne _ _ _ _ (shape_blk hv) (shape_blk hB) (by rw [hs]; omega) (hv.free 0) (hv.free _)]
    rfl
  have hcp1 : ∀ ty dc sc, (Builtin.copy_ #[25, 25] ty #[.slice (some ⟨g, (i + 1) * 2, none⟩) (n - i) dc, .slice (some ⟨g, i * 2, none⟩) (n + 1 - i) sc]).run Try.prog w.drew = .ok (.int .i64 ((n - i : Nat) : Int)) (w.drew.setRow g cur1) := fun ty dc sc => by
    rw [hcur1]
    exact run_copy_k w.drew _ _ ty 34 g ((i + 1) * 2) _ _ ⟨g, i * 2, none⟩ _ _ cur 34 _ 2 (n - i) Try.underlying25 pair_size hB (by simp only [Nat.min_def]; split <;> omega) hdl
      (fun j v hj => by
        rw [add_none]
        have h2 : (l.flatMap encPr)[i * 2 + j]? = some v := by
          have e : l.flatMap encPr = (l.take i).flatMap encPr ++ (l.drop i).flatMap encPr := by rw [← List.flatMap_append, List.take_append_drop]
          rw [e, List.getElem?_append_right (by rw [flat_len encPr encPr_len, List.length_take]; omega), flat_len encPr encPr_len, List.length_take, Nat.min_eq_left (by omega)]
          rw [show i * 2 + j - i * 2 = j from by omega]
          exact hj
        have hC := h.cells (g := g) rfl _ _ h2
        rwa [add_none, Nat.zero_add] at hC)
      (by rw [hdl, hs]; omega) (encPr_one _)
  have hB1 : Blk (w.drew.setRow g cur1) g 34 cur1 := (show Blk w.drew g 34 cur from hB).setRow cur1
  have hv1 : Blk (w.drew.setRow g cur1) vb 34 #[.int .i64 x.at_, .int .i64 x.v] := by
    unfold Blk World.setRow
    simp only [Array.getElem?_modify]
    rw [if_neg (fun e => hne e.symm)]
    exact hv
  have hcp2 : ∀ ty dc, (Builtin.copy_ #[25, 25] ty #[.slice (some ⟨g, i * 2, none⟩) (n + 1 - i) dc, .slice (some ⟨vb, 0, none⟩) 1 1]).run Try.prog (w.drew.setRow g cur1) = .ok (.int .i64 ((1 : Nat) : Int)) ((w.drew.setRow g cur1).setRow g cur2) := fun ty dc => by
    rw [hcur2]
    exact run_copy_k _ _ _ ty 34 g (i * 2) _ _ ⟨vb, 0, none⟩ _ _ cur1 34 (encPr x) 2 1 Try.underlying25 pair_size hB1 (by simp only [Nat.min_def]; split <;> omega) rfl
      (fun j v hj => by rw [add_none, Nat.zero_add, hv1.cell]; simpa [encPr] using hj)
      (by rw [encPr_len, hrow.1]; omega) (by simp [encPr, Value.oneCell'])
  have hgr : w.grownBy ((w.drew.setRow g cur1).setRow g cur2) (some g) :=
    ⟨rfl, rfl, rfl, by simp [World.setRow], fun k _ hk => by
      have hkg : g ≠ k := fun e => hk (by rw [e])
      simp only [World.setRow, Array.getElem?_modify]
      rw [if_neg hkg, if_neg hkg]
      rfl⟩
  have HEND := Lib.hid (show InsPost base w (some ⟨g, 0, none⟩) c l i x (.returned (.slice (some ⟨g, 0, none⟩) (n + 1) c)) ((w.drew.setRow g cur1).setRow g cur2) from by
    refine ⟨_, _, by rw [← hnn], ?_, hgr, fun b hb => .inl hb⟩
    unfold PRow
    rw [ins_len (by omega)]
    exact own_of (by rw [flat_len encPr encPr_len, ins_len (by omega)]) hbg (hB1.setRow cur2) (by omega) hm hrow.2.1 hrow.2.2)
  have hz2 : ¬ ((i : Int) = (n : Int)) := by omega
  have hz3 : ¬ (c : Int) < (n : Int) + 1 := by omega
  have hw1 : IntKind.i64.wrap ((i : Int) + 1) = (i : Int) + 1 := by rw [IntKind.wrap_i64]; omega
  have hw2 : IntKind.i64.wrap ((n : Int) + 1) = (n : Int) + 1 := by rw [IntKind.wrap_i64]; omega
  have hb1 : (0 : Int) ≤ (i : Int) + 1 := by omega
  have hin : (i : Int) ≤ (n : Int) := by omega
  have hin2 : (i : Int) + 1 ≤ (n : Int) + 1 := by omega
  have htn : ((i : Int) + 1).toNat = i + 1 := by omega
  have htn2 : ((n : Int) + 1).toNat = n + 1 := by omega
  have hb2 : ¬ (c = i + 1) := by omega
  have hb3 : (i : Int) ≤ (n : Int) + 1 := by omega
  have hb4 : ¬ (c = i) := by omega
  have hb5 : (n : Int) + 1 ≤ (c : Int) := by omega
  have hb6 : (0 : Int) ≤ (n : Int) + 1 := by omega
  have HC1 := Lib.hid hcp1
  have HC2 := Lib.hid hcp2
  unfold maxLen at hm
  rw [← hnn]
  clear h hv hB hs ht hrow hcur1 hcur2 hcp1 hcp2 hB1 hv1 hgr hdl hnn
  go_enter Try.func68, Try.ntmps68
  go_wp2_with (simp only [hov])
  refine wp_region_held_drew (S := fun _ => True) (by kernel_rfl) ?_ (fun hHeldbr => ?_)
  · trivial
  refine tkW 0 { dst := some 69, op := Op.move (Operand.tmp 0), type := 25, pos := "slices.go:178", after := _, guard := none } (v := ?vbr0) rfl (Or.inl ⟨by rfl, ?hybr0⟩) ?restbr0
  case hybr0 => (intro w hSw; (try dsimp only at hSw); go_simp <;> with_reducible rfl)
  try simp only [putW, setZ, setS]
  refine tkW 1 { dst := some 70, op := Op.move (Operand.tmp 1), type := 3, pos := "slices.go:178", after := _, guard := none } (v := ?vbr1) rfl (Or.inl ⟨by rfl, ?hybr1⟩) ?restbr1
  case hybr1 => (intro w hSw; (try dsimp only at hSw); go_simp <;> with_reducible rfl)
  try simp only [putW, setZ, setS]
  refine tkW 2 { dst := some 71, op := Op.move (Operand.tmp 7), type := 3, pos := "slices.go:178", after := _, guard := none } (v := ?vbr2) rfl (Or.inl ⟨by rfl, ?hybr2⟩) ?restbr2
  case hybr2 => (intro w hSw; (try dsimp only at hSw); go_simp <;> with_reducible rfl)
  try simp only [putW, setZ, setS]
  refine tkW 3 { dst := some 72, op := Op.binOp BinOp.add 3 (Operand.tmp 70) (Operand.tmp 71) 3, type := 3, pos := "slices.go:178", after := _, guard := none } (v := ?vbr3) rfl (Or.inl ⟨by rfl, ?hybr3⟩) ?restbr3
  case hybr3 => (intro w hSw; (try dsimp only at hSw); go_simp <;> with_reducible rfl)
  try simp only [putW, setZ, setS]
  refine tkW 4 { dst := some 73, op := Op.slice 25 (Operand.tmp 69) (some (Operand.tmp 72)) none none, type := 25, pos := "slices.go:178", after := _, guard := none } (v := ?vbr4) rfl (Or.inl ⟨by rfl, ?hybr4⟩) ?restbr4
  case hybr4 => (intro w hSw; (try dsimp only at hSw); go_simp <;> with_reducible rfl)
  try simp only [putW, setZ, setS]
  refine tkW 5 { dst := some 74, op := Op.move (Operand.tmp 0), type := 25, pos := "slices.go:178", after := _, guard := none } (v := ?vbr5) rfl (Or.inl ⟨by rfl, ?hybr5⟩) ?restbr5
  case hybr5 => (intro w hSw; (try dsimp only at hSw); go_simp <;> with_reducible rfl)
  try simp only [putW, setZ, setS]
  refine tkW 6 { dst := some 75, op := Op.move (Operand.tmp 1), type := 3, pos := "slices.go:178", after := _, guard := none } (v := ?vbr6) rfl (Or.inl ⟨by rfl, ?hybr6⟩) ?restbr6
  case hybr6 => (intro w hSw; (try dsimp only at hSw); go_simp <;> with_reducible rfl)
  try simp only [putW, setZ, setS]
  refine tkW 7 { dst := some 76, op := Op.slice 25 (Operand.tmp 74) (some (Operand.tmp 75)) none none, type := 25, pos := "slices.go:178", after := _, guard := none } (v := ?vbr7) rfl (Or.inl ⟨by rfl, ?hybr7⟩) ?restbr7
  case hybr7 => (intro w hSw; (try dsimp only at hSw); go_simp <;> with_reducible rfl)
  try simp only [putW, setZ, setS]
  refine wpAnyH_ready (rs := [8]) (by kernel_rfl) (by simp) ?_
  refine AllReadyH.cons (o := { dst := some 77, op := Op.call { callee := Callee.builtin Builtin.copy, args := #[Operand.tmp 73, Operand.tmp 76], argTypes := #[25, 25] }, type := 3, pos := "slices.go:178", after := _, guard := none }) rfl (fun K hK => ?_) AllReadyH.nil
  refine step_copy_eqn rfl _ _ 25 25 rfl (.slice (some ⟨g, (i + 1) * 2, none⟩) (n - i) (c - (i + 1))) (.slice (some ⟨g, i * 2, none⟩) (n + 1 - i) (c - i)) rfl rfl (HC1.out _ (c - (i + 1)) (c - i)) ?_
  refine hK.out _ _ ?_ (fun hHeldbr8 => ?_)
  · trivial
  clear hK K hHeldbr
  try simp only [Act.put, List.setIfInBounds_toArray, List.set_cons_zero, List.set_cons_succ]
  refine wpAnyH_done (by kernel_rfl) ?_ _
  have hc2 := HC2.out
  go_wp2
  go_ret
  exact HEND.out
end Go.Proofs.Ytmcbnpeihedcaaa
